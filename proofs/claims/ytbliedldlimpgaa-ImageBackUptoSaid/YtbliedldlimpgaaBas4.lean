/- Lemmas that the claim is proved from: what calls of functions of the program come to (contracts), and plain laws. Each lemma bears its own conditions. -/
import Derived.Test.YtbliedldlimpgaaBas3
import Derived.Deep.DeepCutAuto
import Derived.Laws.Tables
import Derived.Laws.ResultCell

namespace Go.Proofs.Ytbliedldlimpgaa
set_option linter.unusedVariables false
set_option linter.unusedSimpArgs false
open Go.RowKit

/-- an image's local, in its block: what its cells hold -/
def imgBlock (name : List UInt8) (flags : Int) (v : ImgV) (shift tlsSize : Int) : Obj :=
  .cells #[.string ⟨name.toArray⟩, .int .i64 flags, v.segs, v.needed, v.runPath, v.syms, v.buckets, v.words, .int .i64 shift, v.relocs, v.slots, v.init, v.fini, v.tls, .int .i64 tlsSize] 38 (0, 0)

/-- bytes that a call made lie from its world's end on -/
theorem OwnK.lbB {α : Type} {e : TypeId} {K : Kind α} {f : α → Value} (hp : Plain K f) {B : Nat} {E : Nat → Prop} {w : World} {v : Value} {l : List α} (h : OwnK e K B E w v l) : LB K (fun b => b < w.heap.size ∧ B ≤ b) w v l :=
  (OwnK.lb (E := (· < B)) (.of_plain hp (h.plain_row hp) (fun g hg h' => by have := (h.lt g hg).1; omega))).imp (fun b hb => ⟨hb.1, Nat.le_of_not_lt hb.2⟩)
theorem okN_idx {size : Nat} {n : Int} (hs : size ≤ 4) (h : okN size n) : ∃ m : Nat, n = m ∧ okLen size m := ⟨n.toNat, okN_nat hs h⟩
theorem okN_int64 {size : Nat} {n : Int} (h : okN size n) (hs : size = 1 ∨ size = 2 ∨ size = 4 ∨ size = 8 := by decide) : -9223372036854775808 ≤ n ∧ n ≤ 9223372036854775807 := by
  rcases hs with rfl | rfl | rfl | rfl <;> (simp [okN] at h; omega)
/-- an image's bytes behind the first text -/
def tailP : List UInt8 → Option (ImgL × List UInt8) :=
  bindP textP fun name => bindP (numP 1) fun flags =>
  bindP (numP 1) fun n1 => bindP (manyP segP n1.toNat) fun segs =>
  bindP (numP 1) fun n2 => bindP (manyP needP n2.toNat) fun needed =>
  bindP (numP 1) fun n3 => bindP (textsP n3) fun runPath =>
  bindP (numP 2) fun n4 => bindP (manyP symP n4.toNat) fun syms =>
  bindP (numP 2) fun n5 => bindP (manyP chainP n5.toNat) fun buckets =>
  bindP (numP 1) fun shift => bindP (numP 1) fun n6 => bindP (manyP wordP n6.toNat) fun words =>
  bindP (numP 2) fun n7 => bindP (manyP relP n7.toNat) fun relocs =>
  bindP (numP 2) fun n8 => bindP (manyP slotP n8.toNat) fun slots =>
  bindP (numP 1) fun n9 => bindP (manyP (numP 4) n9.toNat) fun init =>
  bindP (numP 1) fun n10 => bindP (manyP (numP 4) n10.toNat) fun fini =>
  bindP (numP 2) fun tlsSize => bindP blockP fun tls t =>
  some (⟨name, flags, segs, needed, runPath, syms, buckets, words, shift, relocs, slots, init, fini, tls, tlsSize⟩, t)
theorem got_img {l : List UInt8} {x0 : List UInt8} {st0 st1 st : Option (List UInt8)} {o : Bool} {im : ImgL} (HG : Got textP (some l) x0 st0) (Ho : (!x0 == [99, 108, 101, 118, 105, 115, 49]) = o) (Hst : st1 = if o then none else st0) (h : Got tailP st1 im st) : Got imgP (some l) im st := by
  refine Got.bind (q := fun magic => if magic ≠ magicL then fun _ => none else tailP) HG ?_
  by_cases hx : x0 = magicL
  · have e : o = false := by rw [← Ho, hx]; rfl
    subst e
    rw [if_neg (by simpa using hx)]
    have e : st1 = st0 := Hst
    rw [← e]; exact h
  · have hb : (x0 == [99, 108, 101, 118, 105, 115, 49]) = false := by
      rw [beq_eq_false_iff_ne]; exact hx
    have e : o = true := by rw [← Ho, hb]; rfl
    subst e
    rw [if_pos hx]
    have e : st1 = none := Hst
    have hn : st = none := h.1 e
    exact ⟨fun _ => hn, fun l _ => ⟨fun _ => hn, fun y t h => (by cases h)⟩⟩
/-- an image with nothing in it -/
def emptyL : ImgL := ⟨[], 0, [], [], [], [], [], [], 0, [], [], [], [], [], 0⟩
theorem LB.one {α : Type} {K : Kind α} {S : Nat → Prop} {w : World} {v : Value} {l : List α} (h : LB K S w v l) : v.oneCell' = true := by
  obtain ⟨a, c, rfl⟩ := h.form
  rfl
theorem one_string (s : ByteArray) : (Value.string s).oneCell' = true := rfl
theorem one_int (k : IntKind) (n : Int) : (Value.int k n).oneCell' = true := rfl
theorem one_slice (a : Option Addr) (n c : Nat) : (Value.slice a n c).oneCell' = true := rfl
theorem imgM_empty (S : Nat → Prop) (w : World) : ImgM S w ⟨.slice none 0 0, .slice none 0 0, .slice none 0 0, .slice none 0 0, .slice none 0 0, .slice none 0 0, .slice none 0 0, .slice none 0 0, .slice none 0 0, .slice none 0 0, .slice none 0 0⟩ emptyL where
  name := Nat.zero_le _
  flags := ⟨by decide, by decide⟩
  segs := LB.nil _ _ _
  segsR := fun s hs => (by cases hs)
  needed := LB.nil _ _ _
  runPath := LB.nil _ _ _
  syms := LB.nil _ _ _
  buckets := LB.nil _ _ _
  bucketsL := fun s hs => (by cases hs)
  words := LB.nil _ _ _
  wordsR := fun s hs => (by cases hs)
  shift := ⟨by decide, by decide⟩
  relocs := LB.nil _ _ _
  relocsR := fun s hs => (by cases hs)
  slots := LB.nil _ _ _
  slotsR := fun s hs => (by cases hs)
  init := LB.nil _ _ _
  initR := fun s hs => (by cases hs)
  fini := LB.nil _ _ _
  finiR := fun s hs => (by cases hs)
  tls := LB.nil _ _ _
  tlsSize := ⟨by decide, by decide⟩
theorem results_row_tmp {P : Program} {fn : Func} {p u : Tmp} {ty : TypeId} (h : fn.results = #[.cell p ty, .tmp u]) (tmps : Array Value) (w : World) (g : Nat) (t : TypeId) (cs : Array Value) (fr : Nat × Nat) (d : TypeDesc)
    (hp : tmps.getD p undef = .pointer (some ⟨g, 0, none⟩)) (hg : w.heap[g]? = some (.cells cs t fr))
    (hu : P.underlying ty = some d) (hd : (match d with | .struct _ | .array _ _ => true | _ => false) = true) (hi : (P.info? ty).map (·.size) = some cs.size) :
    (results fn tmps).run P w = .ok (.tuple #[.agg cs, tmps.getD u undef]) w := by
  rw [results_cell_tmp h, hp]
  simp [asAddr, run_loadVar_row w g t ty cs fr d hg hu hd hi, Result.andThen]
theorem wrap_word (n : Int) : IntKind.u64.wrap n = n % 18446744073709551616 := by
  first | rfl | simp [IntKind.wrap] | (unfold IntKind.wrap; rfl)
theorem got_word {st st' : Option (List UInt8)} {n : Int} (h : Got (numP 8) st n st') (hk : okN 8 n) : Got wordP st (n % 18446744073709551616) st' ∧ (0 ≤ n % 18446744073709551616 ∧ n % 18446744073709551616 < 18446744073709551616) := by
  refine ⟨⟨h.1, fun l e => ?_⟩, by omega⟩
  obtain ⟨h1, h2⟩ := h.2 l e
  by_cases hl : 8 ≤ l.length
  · have e1 : numP 8 l = some (sgnL (valL (l.take 8)), l.drop 8) := by rw [numP, if_pos hl, if_pos rfl]
    have e2 : wordP l = some ((valL (l.take 8) : Int), l.drop 8) := by rw [wordP, if_pos hl]
    rw [e2]
    refine ⟨fun h => (by cases h), fun y t hy => ?_⟩
    obtain ⟨rfl, rfl⟩ := Prod.mk.inj (Option.some.inj hy)
    obtain ⟨hn, hs⟩ := h2 _ _ e1
    refine ⟨?_, hs⟩
    have hv := valL_lt (l.take 8)
    rw [List.length_take, Nat.min_eq_left hl] at hv
    have hv : valL (l.take 8) < 18446744073709551616 := hv
    rw [hn, sgnL]
    split <;> omega
  · have e1 : numP 8 l = none := by rw [numP, if_neg hl]
    have e2 : wordP l = none := by rw [wordP, if_neg hl]
    rw [e2]
    exact ⟨fun _ => h1 e1, fun y t hy => (by cases hy)⟩
theorem setCell_row {w : World} {b k : Nat} {cs : Array Value} {t : TypeId} {fr : Nat × Nat} (u : Value) (h : w.heap[b]? = some (.cells cs t fr)) : (w.setCell ⟨b, k, none⟩ u).heap[b]? = some (.cells (cs.setIfInBounds k u) t fr) := by
  simp [World.setCell, Array.getElem?_modify, h]
theorem row_of {w : World} {b : Nat} {l : List Value} {t : TypeId} {fr : Nat × Nat} (h : w.heap[b]? = some (.cells l.toArray t fr)) : ∀ j u, l[j]? = some u → w.cell? ⟨b, j, none⟩ = some u := by
  intro j u hu
  rw [Lib.cell_of_heap h]
  simpa using hu
theorem info_seg : (Try.prog.info? 72).map (fun i => (i.zero, i.size, i.bytes)) = some (some (.agg #[.int .i64 0, .int .i64 0, .slice none 0 0, .int .i64 0]), 4, 48) := by kernel_rfl
theorem info_need : (Try.prog.info? 81).map (fun i => (i.zero, i.size, i.bytes)) = some (some (.agg #[.string ⟨#[]⟩, .slice none 0 0]), 2, 40) := by kernel_rfl
theorem info_sym : (Try.prog.info? 54).map (fun i => (i.zero, i.size, i.bytes)) = some (some (.agg #[.string ⟨#[]⟩, .string ⟨#[]⟩, .bool false, .int .i64 0, .bool false, .int .i64 0, .bool false, .int .i64 0, .int .i64 0]), 9, 88) := by kernel_rfl
theorem info_reloc : (Try.prog.info? 57).map (fun i => (i.zero, i.size, i.bytes)) = some (some (.agg #[.int .i64 0, .int .i64 0, .int .i64 0, .int .i64 0]), 4, 32) := by kernel_rfl
theorem info_slot : (Try.prog.info? 69).map (fun i => (i.zero, i.size, i.bytes)) = some (some (.agg #[.int .i64 0, .int .i64 0, .int .i64 0]), 3, 24) := by kernel_rfl
theorem info_ints : (Try.prog.info? 35).map (fun i => (i.zero, i.size, i.bytes)) = some (some (.slice none 0 0), 1, 24) := by kernel_rfl
theorem info_word : (Try.prog.info? 63).map (fun i => (i.zero, i.size, i.bytes)) = some (some (.int .u64 0), 1, 8) := by kernel_rfl
theorem step_setRow (w : World) (g : Nat) (cs : Array Value) : Step (fun x => x ≠ g) w (w.setRow g cs) := ⟨rfl, rfl, rfl, by simp, fun b hb => setRow_other _ _ _ _ hb⟩

/-- what bytes are as an image, and what is wrong with them -/
def decL (b : List UInt8) : ImgL × Int := match wholeP b with
  | none => (emptyL, 98)
  | some x => if mayL x = 0 then (x, 0) else (emptyL, mayL x)
theorem LQ.done {α : Type} {e : TypeId} {K : Kind α} {p : List UInt8 → Option (α × List UInt8)} {ok : α → Prop} {lb rb gb : Nat} {S0 : Nat → Prop} {w0 w : World} {st0 : Option (List UInt8)} {v : Value} {k : Nat} (B : Nat) (hB : B ≤ w0.heap.size) (h : LQ e K p ok lb rb gb S0 w0 st0 w v k) :
    ∃ xs st, xs.length = k ∧ (∀ x ∈ xs, ok x) ∧ Got (manyP p k) st0 xs st ∧ LD lb rb gb w st ∧ Step (fun x => x < w0.heap.size ∧ S0 x) w0 w ∧ LB K (fun b => B ≤ b ∧ b < w.heap.size) w v xs := by
  obtain ⟨xs, st, h1, h2, h3, h4, h5, h6⟩ := h
  exact ⟨xs, st, h2, h3, h4, h5, h6, h1.lb.imp (fun b hb => ⟨Nat.le_trans hB (Nat.le_of_not_lt hb.2), hb.1⟩)⟩
theorem LB.far {α : Type} {K : Kind α} {B B' : Nat} {S : Nat → Prop} {w w' : World} {v : Value} {l : List α} (h : LB K (fun b => B ≤ b ∧ b < w.heap.size) w v l) (hs : Step S w w') (hS : ∀ b, B ≤ b → b < w.heap.size → S b) (hB : B' ≤ B) : LB K (fun b => B' ≤ b ∧ b < w'.heap.size) w' v l :=
  (h.keeps (fun b hb => hs.block b (hS b hb.1 hb.2))).imp (fun b hb => ⟨by omega, by have := hs.size; omega⟩)


/-- the n-th statement of a function's body, and what stands inside a block and a loop -/
def codeOf (f : Func) : Code := f.body.getD .skip
def behind : Nat → Code → Code
  | 0, c => c
  | n + 1, .seq _ b => behind n b
  | _ + 1, c => c
def firstOf : Code → Code
  | .seq a _ => a
  | c => c
def inBlk : Code → Code
  | .block _ c => c
  | c => c
def inLoop : Code → Code
  | .loop c => c
  | c => c
def dRest (f : Func) (n : Nat) : Code := behind n (codeOf f)
def dCode (f : Func) (n : Nat) : Code := firstOf (dRest f n)
/-- the first region of the loop in a statement -/
def dReg (f : Func) (n : Nat) : Code := firstOf (inBlk (firstOf (behind 2 (inLoop (inBlk (behind 1 (dCode f n)))))))
/-- what some slots of a frame hold -/
def FrL (t : Array Value) : List (Nat × Value) → Prop
  | [] => True
  | p :: l => t.getD p.1 undef = p.2 ∧ FrL t l
def Fr (xs : List (Nat × Value)) (a : Act) : Prop := a.tmps.size = 332 ∧ a.defers = [] ∧ FrL a.tmps xs
theorem lists_cons {n : Nat} {p : List Value → Prop} (h : ∀ x t, t.length = n → p (x :: t)) : ∀ l : List Value, l.length = n + 1 → p l := by
  intro l hl
  cases l with
  | nil => cases hl
  | cons x t => exact h x t (Nat.succ.inj hl)
theorem lists_nil {p : List Value → Prop} (h : p []) : ∀ l : List Value, l.length = 0 → p l := by
  intro l hl
  cases l with
  | nil => exact h
  | cons x t => cases hl
set_option maxRecDepth 100000 in
set_option maxHeartbeats 4000000 in
theorem frames {p : List Value → Prop} (h : ∀ V0 V1 V2 V3 V4 V5 V6 V7 V8 V9 V10 V11 V12 V13 V14 V15 V16 V17 V18 V19 V20 V21 V22 V23 V24 V25 V26 V27 V28 V29 V30 V31 V32 V33 V34 V35 V36 V37 V38 V39
    V40 V41 V42 V43 V44 V45 V46 V47 V48 V49 V50 V51 V52 V53 V54 V55 V56 V57 V58 V59 V60 V61 V62 V63 V64 V65 V66 V67 V68 V69 V70 V71 V72 V73 V74 V75 V76 V77 V78 V79
    V80 V81 V82 V83 V84 V85 V86 V87 V88 V89 V90 V91 V92 V93 V94 V95 V96 V97 V98 V99 V100 V101 V102 V103 V104 V105 V106 V107 V108 V109 V110 V111 V112 V113 V114 V115 V116 V117 V118 V119
    V120 V121 V122 V123 V124 V125 V126 V127 V128 V129 V130 V131 V132 V133 V134 V135 V136 V137 V138 V139 V140 V141 V142 V143 V144 V145 V146 V147 V148 V149 V150 V151 V152 V153 V154 V155 V156 V157 V158 V159
    V160 V161 V162 V163 V164 V165 V166 V167 V168 V169 V170 V171 V172 V173 V174 V175 V176 V177 V178 V179 V180 V181 V182 V183 V184 V185 V186 V187 V188 V189 V190 V191 V192 V193 V194 V195 V196 V197 V198 V199
    V200 V201 V202 V203 V204 V205 V206 V207 V208 V209 V210 V211 V212 V213 V214 V215 V216 V217 V218 V219 V220 V221 V222 V223 V224 V225 V226 V227 V228 V229 V230 V231 V232 V233 V234 V235 V236 V237 V238 V239
    V240 V241 V242 V243 V244 V245 V246 V247 V248 V249 V250 V251 V252 V253 V254 V255 V256 V257 V258 V259 V260 V261 V262 V263 V264 V265 V266 V267 V268 V269 V270 V271 V272 V273 V274 V275 V276 V277 V278 V279
    V280 V281 V282 V283 V284 V285 V286 V287 V288 V289 V290 V291 V292 V293 V294 V295 V296 V297 V298 V299 V300 V301 V302 V303 V304 V305 V306 V307 V308 V309 V310 V311 V312 V313 V314 V315 V316 V317 V318 V319
    V320 V321 V322 V323 V324 V325 V326 V327 V328 V329 V330 V331 : Value, p [V0, V1, V2, V3, V4, V5, V6, V7, V8, V9, V10, V11, V12, V13, V14, V15, V16, V17, V18, V19, V20, V21, V22, V23, V24, V25, V26, V27, V28, V29, V30, V31, V32, V33, V34, V35, V36, V37, V38, V39, V40, V41, V42, V43, V44, V45, V46, V47, V48, V49, V50, V51, V52, V53, V54, V55, V56, V57, V58, V59, V60, V61, V62, V63, V64, V65, V66, V67, V68, V69, V70, V71, V72, V73, V74, V75, V76, V77, V78, V79, V80, V81, V82, V83, V84, V85, V86, V87, V88, V89, V90, V91, V92, V93, V94, V95, V96, V97, V98, V99, V100, V101, V102, V103, V104, V105, V106, V107, V108, V109, V110, V111, V112, V113, V114, V115, V116, V117, V118, V119, V120, V121, V122, V123, V124, V125, V126, V127, V128, V129, V130, V131, V132, V133, V134, V135, V136, V137, V138, V139, V140, V141, V142, V143, V144, V145, V146, V147, V148, V149, V150, V151, V152, V153, V154, V155, V156, V157, V158, V159, V160, V161, V162, V163, V164, V165, V166, V167, V168, V169, V170, V171, V172, V173, V174, V175, V176, V177, V178, V179, V180, V181, V182, V183, V184, V185, V186, V187, V188, V189, V190, V191, V192, V193, V194, V195, V196, V197, V198, V199, V200, V201, V202, V203, V204, V205, V206, V207, V208, V209, V210, V211, V212, V213, V214, V215, V216, V217, V218, V219, V220, V221, V222, V223, V224, V225, V226, V227, V228, V229, V230, V231, V232, V233, V234, V235, V236, V237, V238, V239, V240, V241, V242, V243, V244, V245, V246, V247, V248, V249, V250, V251, V252, V253, V254, V255, V256, V257, V258, V259, V260, V261, V262, V263, V264, V265, V266, V267, V268, V269, V270, V271, V272, V273, V274, V275, V276, V277, V278, V279, V280, V281, V282, V283, V284, V285, V286, V287, V288, V289, V290, V291, V292, V293, V294, V295, V296, V297, V298, V299, V300, V301, V302, V303, V304, V305, V306, V307, V308, V309, V310, V311, V312, V313, V314, V315, V316, V317, V318, V319, V320, V321, V322, V323, V324, V325, V326, V327, V328, V329, V330, V331]) : ∀ l : List Value, l.length = 332 → p l := by
  iterate 332 (refine lists_cons (fun _ => ?_))
  exact lists_nil (h _ _ _ _ _ _ _ _ _ _ _ _ _ _ _ _ _ _ _ _ _ _ _ _ _ _ _ _ _ _ _ _ _ _ _ _ _ _ _ _
    _ _ _ _ _ _ _ _ _ _ _ _ _ _ _ _ _ _ _ _ _ _ _ _ _ _ _ _ _ _ _ _ _ _ _ _ _ _ _ _
    _ _ _ _ _ _ _ _ _ _ _ _ _ _ _ _ _ _ _ _ _ _ _ _ _ _ _ _ _ _ _ _ _ _ _ _ _ _ _ _
    _ _ _ _ _ _ _ _ _ _ _ _ _ _ _ _ _ _ _ _ _ _ _ _ _ _ _ _ _ _ _ _ _ _ _ _ _ _ _ _
    _ _ _ _ _ _ _ _ _ _ _ _ _ _ _ _ _ _ _ _ _ _ _ _ _ _ _ _ _ _ _ _ _ _ _ _ _ _ _ _
    _ _ _ _ _ _ _ _ _ _ _ _ _ _ _ _ _ _ _ _ _ _ _ _ _ _ _ _ _ _ _ _ _ _ _ _ _ _ _ _
    _ _ _ _ _ _ _ _ _ _ _ _ _ _ _ _ _ _ _ _ _ _ _ _ _ _ _ _ _ _ _ _ _ _ _ _ _ _ _ _
    _ _ _ _ _ _ _ _ _ _ _ _ _ _ _ _ _ _ _ _ _ _ _ _ _ _ _ _ _ _ _ _ _ _ _ _ _ _ _ _
    _ _ _ _ _ _ _ _ _ _ _ _)
set_option maxRecDepth 100000 in
theorem Fr.elim {xs : List (Nat × Value)} {a : Act} {C : Act → Prop} (h : Fr xs a) (k : ∀ V0 V1 V2 V3 V4 V5 V6 V7 V8 V9 V10 V11 V12 V13 V14 V15 V16 V17 V18 V19 V20 V21 V22 V23 V24 V25 V26 V27 V28 V29 V30 V31 V32 V33 V34 V35 V36 V37 V38 V39
    V40 V41 V42 V43 V44 V45 V46 V47 V48 V49 V50 V51 V52 V53 V54 V55 V56 V57 V58 V59 V60 V61 V62 V63 V64 V65 V66 V67 V68 V69 V70 V71 V72 V73 V74 V75 V76 V77 V78 V79
    V80 V81 V82 V83 V84 V85 V86 V87 V88 V89 V90 V91 V92 V93 V94 V95 V96 V97 V98 V99 V100 V101 V102 V103 V104 V105 V106 V107 V108 V109 V110 V111 V112 V113 V114 V115 V116 V117 V118 V119
    V120 V121 V122 V123 V124 V125 V126 V127 V128 V129 V130 V131 V132 V133 V134 V135 V136 V137 V138 V139 V140 V141 V142 V143 V144 V145 V146 V147 V148 V149 V150 V151 V152 V153 V154 V155 V156 V157 V158 V159
    V160 V161 V162 V163 V164 V165 V166 V167 V168 V169 V170 V171 V172 V173 V174 V175 V176 V177 V178 V179 V180 V181 V182 V183 V184 V185 V186 V187 V188 V189 V190 V191 V192 V193 V194 V195 V196 V197 V198 V199
    V200 V201 V202 V203 V204 V205 V206 V207 V208 V209 V210 V211 V212 V213 V214 V215 V216 V217 V218 V219 V220 V221 V222 V223 V224 V225 V226 V227 V228 V229 V230 V231 V232 V233 V234 V235 V236 V237 V238 V239
    V240 V241 V242 V243 V244 V245 V246 V247 V248 V249 V250 V251 V252 V253 V254 V255 V256 V257 V258 V259 V260 V261 V262 V263 V264 V265 V266 V267 V268 V269 V270 V271 V272 V273 V274 V275 V276 V277 V278 V279
    V280 V281 V282 V283 V284 V285 V286 V287 V288 V289 V290 V291 V292 V293 V294 V295 V296 V297 V298 V299 V300 V301 V302 V303 V304 V305 V306 V307 V308 V309 V310 V311 V312 V313 V314 V315 V316 V317 V318 V319
    V320 V321 V322 V323 V324 V325 V326 V327 V328 V329 V330 V331 : Value, Fr xs ⟨#[V0, V1, V2, V3, V4, V5, V6, V7, V8, V9, V10, V11, V12, V13, V14, V15, V16, V17, V18, V19, V20, V21, V22, V23, V24, V25, V26, V27, V28, V29, V30, V31, V32, V33, V34, V35, V36, V37, V38, V39, V40, V41, V42, V43, V44, V45, V46, V47, V48, V49, V50, V51, V52, V53, V54, V55, V56, V57, V58, V59, V60, V61, V62, V63, V64, V65, V66, V67, V68, V69, V70, V71, V72, V73, V74, V75, V76, V77, V78, V79, V80, V81, V82, V83, V84, V85, V86, V87, V88, V89, V90, V91, V92, V93, V94, V95, V96, V97, V98, V99, V100, V101, V102, V103, V104, V105, V106, V107, V108, V109, V110, V111, V112, V113, V114, V115, V116, V117, V118, V119, V120, V121, V122, V123, V124, V125, V126, V127, V128, V129, V130, V131, V132, V133, V134, V135, V136, V137, V138, V139, V140, V141, V142, V143, V144, V145, V146, V147, V148, V149, V150, V151, V152, V153, V154, V155, V156, V157, V158, V159, V160, V161, V162, V163, V164, V165, V166, V167, V168, V169, V170, V171, V172, V173, V174, V175, V176, V177, V178, V179, V180, V181, V182, V183, V184, V185, V186, V187, V188, V189, V190, V191, V192, V193, V194, V195, V196, V197, V198, V199, V200, V201, V202, V203, V204, V205, V206, V207, V208, V209, V210, V211, V212, V213, V214, V215, V216, V217, V218, V219, V220, V221, V222, V223, V224, V225, V226, V227, V228, V229, V230, V231, V232, V233, V234, V235, V236, V237, V238, V239, V240, V241, V242, V243, V244, V245, V246, V247, V248, V249, V250, V251, V252, V253, V254, V255, V256, V257, V258, V259, V260, V261, V262, V263, V264, V265, V266, V267, V268, V269, V270, V271, V272, V273, V274, V275, V276, V277, V278, V279, V280, V281, V282, V283, V284, V285, V286, V287, V288, V289, V290, V291, V292, V293, V294, V295, V296, V297, V298, V299, V300, V301, V302, V303, V304, V305, V306, V307, V308, V309, V310, V311, V312, V313, V314, V315, V316, V317, V318, V319, V320, V321, V322, V323, V324, V325, V326, V327, V328, V329, V330, V331], []⟩ → C ⟨#[V0, V1, V2, V3, V4, V5, V6, V7, V8, V9, V10, V11, V12, V13, V14, V15, V16, V17, V18, V19, V20, V21, V22, V23, V24, V25, V26, V27, V28, V29, V30, V31, V32, V33, V34, V35, V36, V37, V38, V39, V40, V41, V42, V43, V44, V45, V46, V47, V48, V49, V50, V51, V52, V53, V54, V55, V56, V57, V58, V59, V60, V61, V62, V63, V64, V65, V66, V67, V68, V69, V70, V71, V72, V73, V74, V75, V76, V77, V78, V79, V80, V81, V82, V83, V84, V85, V86, V87, V88, V89, V90, V91, V92, V93, V94, V95, V96, V97, V98, V99, V100, V101, V102, V103, V104, V105, V106, V107, V108, V109, V110, V111, V112, V113, V114, V115, V116, V117, V118, V119, V120, V121, V122, V123, V124, V125, V126, V127, V128, V129, V130, V131, V132, V133, V134, V135, V136, V137, V138, V139, V140, V141, V142, V143, V144, V145, V146, V147, V148, V149, V150, V151, V152, V153, V154, V155, V156, V157, V158, V159, V160, V161, V162, V163, V164, V165, V166, V167, V168, V169, V170, V171, V172, V173, V174, V175, V176, V177, V178, V179, V180, V181, V182, V183, V184, V185, V186, V187, V188, V189, V190, V191, V192, V193, V194, V195, V196, V197, V198, V199, V200, V201, V202, V203, V204, V205, V206, V207, V208, V209, V210, V211, V212, V213, V214, V215, V216, V217, V218, V219, V220, V221, V222, V223, V224, V225, V226, V227, V228, V229, V230, V231, V232, V233, V234, V235, V236, V237, V238, V239, V240, V241, V242, V243, V244, V245, V246, V247, V248, V249, V250, V251, V252, V253, V254, V255, V256, V257, V258, V259, V260, V261, V262, V263, V264, V265, V266, V267, V268, V269, V270, V271, V272, V273, V274, V275, V276, V277, V278, V279, V280, V281, V282, V283, V284, V285, V286, V287, V288, V289, V290, V291, V292, V293, V294, V295, V296, V297, V298, V299, V300, V301, V302, V303, V304, V305, V306, V307, V308, V309, V310, V311, V312, V313, V314, V315, V316, V317, V318, V319, V320, V321, V322, V323, V324, V325, V326, V327, V328, V329, V330, V331], []⟩) : C a := by
  obtain ⟨⟨l⟩, d⟩ := a
  obtain ⟨h1, h2, h3⟩ := h
  dsimp only at h2
  subst h2
  exact frames (p := fun l => Fr xs ⟨⟨l⟩, []⟩ → C ⟨⟨l⟩, []⟩) k l h1 ⟨h1, rfl, h3⟩
theorem FrL.get {t : Array Value} : ∀ {l : List (Nat × Value)}, FrL t l → ∀ p ∈ l, t.getD p.1 undef = p.2
  | _ :: _, h, p, hp => by
    cases hp with
    | head => exact h.1
    | tail _ hp => exact FrL.get h.2 p hp
/-- a loop whose round number i is known of: m rounds at most -/
theorem wp_loop_n {P : Program} {c : Code} {Q : Exit → Act → World → Prop} {a : Act} {w : World} {k m : Nat} (I : Nat → Act → World → Prop) (hc : ∀ q a w, I q a w → q ≤ m ∧ a.tmps.getD k undef = .int .i64 q) (h0 : I 0 a w)
    (round : ∀ q a w K, q ≤ m → I q a w → (∀ a' w', q < m → I (q + 1) a' w' → K a' w') → c.wp P (Exit.then K Q) a w) : (Code.loop c).wp P Q a w := by
  refine wp_loop (fun a w => ∃ q, I q a w) (fun a _ => m - (intOf (a.tmps.getD k undef)).toNat) ⟨0, h0⟩ ?_
  rintro a w ⟨q, hI⟩
  obtain ⟨hq, hk⟩ := hc q a w hI
  refine round q a w _ hq hI (fun a' w' hlt hI' => ⟨⟨q + 1, hI'⟩, ?_⟩)
  obtain ⟨hq', hk'⟩ := hc _ _ _ hI'
  rw [hk, hk']
  show m - (((q + 1 : Nat) : Int)).toNat < m - ((q : Nat) : Int).toNat
  omega
theorem d_seq (f : Func) (n : Nat) (h : (match dRest f n with | .seq _ _ => true | _ => false) = true) : dRest f n = .seq (dCode f n) (dRest f (n + 1)) := by
  have hb : ∀ n c, behind (n + 1) c = behind 1 (behind n c) := by
    intro n
    induction n with
    | zero => intro c; rfl
    | succ n ih =>
      intro c
      cases c with
      | seq a b => exact ih b
      | _ => rfl
  unfold dCode
  unfold dRest at h ⊢
  rw [hb n]
  generalize behind n (codeOf f) = c at h ⊢
  cases c with
  | seq a b => rfl
  | _ => cases h

end Go.Proofs.Ytbliedldlimpgaa

namespace Go.Proofs.Ytbliedldlimpgaa
set_option linter.unusedVariables false
set_option linter.unusedSimpArgs false
open Go.RowKit

set_option maxHeartbeats 64000000 in
set_option maxRecDepth 100000 in
theorem dhead {Q : Exit → Act → World → Prop} {a : Act} {w : World} {va : Option Addr} {vc : Nat} {l : List UInt8} (hF : Fr [(0, .slice va l.length vc)] a) (hl : LB kByte (· < w.heap.size) w (.slice va l.length vc) l) (hlen : l.length ≤ 140737488355328) (hw : 0 < w.heap.size)
    (hQ : ∀ (a' : Act) (w4 : World) (lb rb gb : Nat) (x0 : List UInt8) (st0 st1 : Option (List UInt8)) (o : Bool), Fr [(2, .pointer (some ⟨w.heap.size, 0, none⟩)), (4, .pointer (some ⟨lb, 0, none⟩))] a' → LD lb rb gb w4 st1 → Got textP (some l) x0 st0 → (!x0 == [99, 108, 101, 118, 105, 115, 49]) = o → st1 = (if o then none else st0) → Below w.heap.size w w4 → w4.heap[w.heap.size]? = some (.cells #[.string ⟨#[]⟩, .int .i64 0, .slice none 0 0, .slice none 0 0, .slice none 0 0, .slice none 0 0, .slice none 0 0, .slice none 0 0, .int .i64 0, .slice none 0 0, .slice none 0 0, .slice none 0 0, .slice none 0 0, .slice none 0 0, .int .i64 0] 38 (0, 0)) → w.heap.size < rb → w.heap.size < lb → (dRest Try.f15 3).wp Try.prog Q a' w4) : (dRest Try.f15 0).wp Try.prog Q a w := by
  have HQ := Lib.hid hQ
  have HR := Lib.hid (fun o => rnew_any (w.alloc o) (.slice va l.length vc) l ((hl.keeps (fun b hb => heap_alloc_old w o hb)).imp (fun b hb => by have hb : b < w.heap.size := hb; rw [World.size_alloc]; omega)) hlen (by rw [World.size_alloc]; omega))
  clear hl hQ
  have e0 : dRest Try.f15 0 = .seq (dCode Try.f15 0) (dRest Try.f15 1) := d_seq _ 0 (by kernel_rfl)
  have e1 : dRest Try.f15 1 = .seq (dCode Try.f15 1) (dRest Try.f15 2) := d_seq _ 1 (by kernel_rfl)
  have e2 : dRest Try.f15 2 = .seq (dCode Try.f15 2) (dRest Try.f15 3) := d_seq _ 2 (by kernel_rfl)
  rw [e0, e1, e2]
  clear e0 e1 e2
  apply Fr.elim hF
  clear hF
  intro V0 V1 V2 V3 V4 V5 V6 V7 V8 V9 V10 V11 V12 V13 V14 V15 V16 V17 V18 V19 V20 V21 V22 V23 V24 V25 V26 V27 V28 V29 V30 V31 V32 V33 V34 V35 V36 V37 V38 V39
    V40 V41 V42 V43 V44 V45 V46 V47 V48 V49 V50 V51 V52 V53 V54 V55 V56 V57 V58 V59 V60 V61 V62 V63 V64 V65 V66 V67 V68 V69 V70 V71 V72 V73 V74 V75 V76 V77 V78 V79
    V80 V81 V82 V83 V84 V85 V86 V87 V88 V89 V90 V91 V92 V93 V94 V95 V96 V97 V98 V99 V100 V101 V102 V103 V104 V105 V106 V107 V108 V109 V110 V111 V112 V113 V114 V115 V116 V117 V118 V119
    V120 V121 V122 V123 V124 V125 V126 V127 V128 V129 V130 V131 V132 V133 V134 V135 V136 V137 V138 V139 V140 V141 V142 V143 V144 V145 V146 V147 V148 V149 V150 V151 V152 V153 V154 V155 V156 V157 V158 V159
    V160 V161 V162 V163 V164 V165 V166 V167 V168 V169 V170 V171 V172 V173 V174 V175 V176 V177 V178 V179 V180 V181 V182 V183 V184 V185 V186 V187 V188 V189 V190 V191 V192 V193 V194 V195 V196 V197 V198 V199
    V200 V201 V202 V203 V204 V205 V206 V207 V208 V209 V210 V211 V212 V213 V214 V215 V216 V217 V218 V219 V220 V221 V222 V223 V224 V225 V226 V227 V228 V229 V230 V231 V232 V233 V234 V235 V236 V237 V238 V239
    V240 V241 V242 V243 V244 V245 V246 V247 V248 V249 V250 V251 V252 V253 V254 V255 V256 V257 V258 V259 V260 V261 V262 V263 V264 V265 V266 V267 V268 V269 V270 V271 V272 V273 V274 V275 V276 V277 V278 V279
    V280 V281 V282 V283 V284 V285 V286 V287 V288 V289 V290 V291 V292 V293 V294 V295 V296 V297 V298 V299 V300 V301 V302 V303 V304 V305 V306 V307 V308 V309 V310 V311 V312 V313 V314 V315 V316 V317 V318 V319
    V320 V321 V322 V323 V324 V325 V326 V327 V328 V329 V330 V331 hF
  obtain ⟨-, -, e0, -⟩ := hF
  replace e0 : V0 = .slice va l.length vc := e0
  subst e0
  conv in dCode _ 0 => whnf
  conv in dCode _ 1 => whnf
  conv in dCode _ 2 => whnf
  go_wp2_with fail
  obtain ⟨oz, hoz⟩ : ∃ oz : Obj, oz = .cells #[.string ⟨#[]⟩, .int .i64 0, .slice none 0 0, .slice none 0 0, .slice none 0 0, .slice none 0 0, .slice none 0 0, .slice none 0 0, .int .i64 0, .slice none 0 0, .slice none 0 0, .slice none 0 0, .slice none 0 0, .slice none 0 0, .int .i64 0] 38 (0, 0) := ⟨_, rfl⟩
  have Hoz := Lib.hid hoz
  rw [← hoz]
  clear hoz
  refine (HR.out oz).mono ?_
  rintro e w1 ⟨rb, gb, rfl, hr1, hb1, hrb⟩
  have HB1 := Lib.hid (((Below.refl w.heap.size w).alloc (Nat.le_refl _) oz).trans (hb1.mono (by rw [World.size_alloc]; omega)))
  have F1 := Lib.hid ((hb1.block w.heap.size (by rw [World.size_alloc]; omega)).trans (heap_alloc_new w oz))
  have HR1 := Lib.hid (hr1.alloc (.cells #[.pointer (some ⟨rb, 0, none⟩), .bool false] 94 (0, 0)))
  have hrl := hr1.lt
  have HX1 := Lib.hid (heap_alloc_new w1 (.cells #[.pointer (some ⟨rb, 0, none⟩), .bool false] 94 (0, 0)))
  have hz1 : w.heap.size + 1 ≤ w1.heap.size := by have := hb1.size; rw [World.size_alloc] at this; exact this
  have hgl : gb < w1.heap.size := by
    obtain ⟨_, _, _, _, _, _, h, _⟩ := hr1.ex
    exact h
  clear hr1 hb1 HR
  obtain ⟨f1, v1, r1, R1, R2, R3, R4, R5, R6⟩ := HR1.out.ex
  have HP := Lib.hid (rtext_any _ rb gb (some l) HR1.out)
  have HS0 := Lib.hid (Step.of_below ((Below.refl _ w1).alloc (Nat.le_refl _) (.cells #[.pointer (some ⟨rb, 0, none⟩), .bool false] 94 (0, 0))))
  have hz2 : w1.heap.size < (w1.alloc (.cells #[.pointer (some ⟨rb, 0, none⟩), .bool false] 94 (0, 0))).heap.size := by simp
  clear R1 R2 R3 R5 R6
  go_upto_region 2 with fail
  generalize w1.alloc (.cells #[.pointer (some ⟨rb, 0, none⟩), .bool false] 94 (0, 0)) = w2 at *
  generalize w1.heap.size = lb at *
  have c2 : w2.cell? ⟨lb, 0, none⟩ = some (.pointer (some ⟨rb, 0, none⟩)) := by rw [Lib.cell_of_heap HX1.out]; rfl
  go_wp2_with fail
  refine HP.out.mono ?_
  rintro e w3 ⟨rfl, hr3, hs3, -⟩
  have hne : lb ≠ rb := by omega
  have hng : lb ≠ gb := by omega
  have X3 := (hs3.block lb hne).trans HX1.out
  have c31 : w3.cell? ⟨lb, 1, none⟩ = some (.bool false) := by rw [Lib.cell_of_heap X3]; rfl
  have fz3 : w3.frozen? ⟨lb, 1, none⟩ = false := Lib.frozen_of_heap X3 1
  have HR3 := Lib.hid hr3
  have HX3 := Lib.hid X3
  have HG := Lib.hid (got_part (some l) 2 4096 (by decide))
  have hsz3 := hs3.size
  have hlb3 : lb < w3.heap.size := by omega
  have HS3 := Lib.hid hs3
  clear X3 hr3 hs3 HP HX1
  generalize partS (some l) 2 4096 = p0 at *
  obtain ⟨x0, st0⟩ := p0
  dsimp only at HR3 HG
  have hrb3 : rb < w3.heap.size := by omega
  have hgb3 : gb < w3.heap.size := by omega
  go_upto_region 3 with fail
  obtain ⟨o, ho⟩ : ∃ o, (!x0 == [99, 108, 101, 118, 105, 115, 49]) = o := ⟨_, rfl⟩
  rw [ho]
  obtain ⟨st1, hst1⟩ : ∃ s : Option (List UInt8), s = if o then none else st0 := ⟨_, rfl⟩
  have HL4 : Hid (LD lb rb gb (w3.setCell ⟨lb, 1, none⟩ (.bool o)) st1) := Lib.hid ⟨⟨o, st0, by simp [World.setCell, Array.getElem?_modify, HX3.out], HR3.out.step (S := fun x => x ≠ lb) (setCell_step w3 lb 1 _) hne.symm hng.symm, hst1⟩, hne, hng⟩
  have hlz := hz1
  have HB4 : Hid (Step (fun x => x < lb ∧ x ≠ rb) w1 (w3.setCell ⟨lb, 1, none⟩ (.bool o))) := Lib.hid ((HS0.out.imp (fun x hx => hx.1)).trans ((HS3.out.imp (fun x hx => hx.2)).trans ((setCell_step w3 lb 1 _).imp (fun x hx => by have := hx.1; omega))))
  have hz4 : lb < (w3.setCell ⟨lb, 1, none⟩ (.bool o)).heap.size := by simpa using hlb3
  have Hst1 := Lib.hid hst1
  have Ho := Lib.hid ho
  clear hst1 ho HX3 HR3 HS3 HS0 c31 fz3 c2 hsz3 hlb3 hrb3 hgb3 hz2
  generalize w3.setCell ⟨lb, 1, none⟩ (.bool o) = w4 at *
  clear w3 HR1
  have c4 : w4.cell? ⟨lb, 0, none⟩ = some (.pointer (some ⟨rb, 0, none⟩)) := HL4.out.cell
  have HBw : Below w.heap.size w w4 := ((Step.of_below HB1.out).trans (HB4.out.imp (fun x hx => ⟨by omega, by have := hrb; rw [World.size_alloc] at this; omega⟩))).below
  have HZ : w4.heap[w.heap.size]? = some (.cells #[.string ⟨#[]⟩, .int .i64 0, .slice none 0 0, .slice none 0 0, .slice none 0 0, .slice none 0 0, .slice none 0 0, .slice none 0 0, .int .i64 0, .slice none 0 0, .slice none 0 0, .slice none 0 0, .slice none 0 0, .slice none 0 0, .int .i64 0] 38 (0, 0)) := by
    rw [HB4.out.block w.heap.size ⟨by omega, by have := hrb; rw [World.size_alloc] at this; omega⟩, F1.out, Hoz.out]
  exact HQ.out _ _ lb rb gb x0 st0 st1 o ⟨by kernel_rfl, rfl, (by kernel_rfl), (by kernel_rfl), trivial⟩ HL4.out HG.out Ho.out Hst1.out HBw HZ (by have := hrb; rw [World.size_alloc] at this; omega) (by omega)

end Go.Proofs.Ytbliedldlimpgaa

namespace Go.Proofs.Ytbliedldlimpgaa
set_option linter.unusedVariables false
set_option linter.unusedSimpArgs false
open Go.RowKit

set_option maxHeartbeats 64000000 in
set_option maxRecDepth 100000 in
theorem dreg0 {Q : Exit → Act → World → Prop} (hP : ∀ x a a' w, a'.defers = a.defers → Q (.panic x) a w → Q (.panic x) a' w) {a : Act} {wr : World} {z lb rb gb : Nat} {s0 : Option (List UInt8)} (hF : Fr [(2, .pointer (some ⟨z, 0, none⟩)), (4, .pointer (some ⟨lb, 0, none⟩))] a) (H : LD lb rb gb wr s0) (hne : lb ≠ rb) (hng : lb ≠ gb)
    (hR : ∀ (a' : Act) (wc : World) (sb : Nat) (name : List UInt8) (flags : Int) (s1 s2 : Option (List UInt8)), Fr [(2, .pointer (some ⟨z, 0, none⟩)), (4, .pointer (some ⟨lb, 0, none⟩)), (5, .pointer (some ⟨sb, 0, none⟩))] a' → Got textP s0 name s1 → name.length ≤ 4096 → Got (numP 1) s1 flags s2 → okN 1 flags → LD lb rb gb wc s2 → wc.heap[sb]? = some (.cells #[.string ⟨name.toArray⟩, .int .i64 flags, .slice none 0 0, .slice none 0 0, .slice none 0 0, .slice none 0 0, .slice none 0 0, .slice none 0 0, .int .i64 0, .slice none 0 0, .slice none 0 0, .slice none 0 0, .slice none 0 0, .slice none 0 0, .int .i64 0] 38 (0, 0)) → Step (fun x => x < wr.heap.size ∧ x ≠ rb) wr wc → wr.heap.size ≤ sb → Q .normal a' wc) : (dCode Try.f15 3).wp Try.prog Q a wr := by
  have H5 := Lib.hid H
  have HR := Lib.hid hR
  have hlb := H.lt
  have hrb := H.rblt
  have hgb := H.gblt
  have c := H.cell
  clear H hR
  apply Fr.elim hF
  clear hF
  intro V0 V1 V2 V3 V4 V5 V6 V7 V8 V9 V10 V11 V12 V13 V14 V15 V16 V17 V18 V19 V20 V21 V22 V23 V24 V25 V26 V27 V28 V29 V30 V31 V32 V33 V34 V35 V36 V37 V38 V39
    V40 V41 V42 V43 V44 V45 V46 V47 V48 V49 V50 V51 V52 V53 V54 V55 V56 V57 V58 V59 V60 V61 V62 V63 V64 V65 V66 V67 V68 V69 V70 V71 V72 V73 V74 V75 V76 V77 V78 V79
    V80 V81 V82 V83 V84 V85 V86 V87 V88 V89 V90 V91 V92 V93 V94 V95 V96 V97 V98 V99 V100 V101 V102 V103 V104 V105 V106 V107 V108 V109 V110 V111 V112 V113 V114 V115 V116 V117 V118 V119
    V120 V121 V122 V123 V124 V125 V126 V127 V128 V129 V130 V131 V132 V133 V134 V135 V136 V137 V138 V139 V140 V141 V142 V143 V144 V145 V146 V147 V148 V149 V150 V151 V152 V153 V154 V155 V156 V157 V158 V159
    V160 V161 V162 V163 V164 V165 V166 V167 V168 V169 V170 V171 V172 V173 V174 V175 V176 V177 V178 V179 V180 V181 V182 V183 V184 V185 V186 V187 V188 V189 V190 V191 V192 V193 V194 V195 V196 V197 V198 V199
    V200 V201 V202 V203 V204 V205 V206 V207 V208 V209 V210 V211 V212 V213 V214 V215 V216 V217 V218 V219 V220 V221 V222 V223 V224 V225 V226 V227 V228 V229 V230 V231 V232 V233 V234 V235 V236 V237 V238 V239
    V240 V241 V242 V243 V244 V245 V246 V247 V248 V249 V250 V251 V252 V253 V254 V255 V256 V257 V258 V259 V260 V261 V262 V263 V264 V265 V266 V267 V268 V269 V270 V271 V272 V273 V274 V275 V276 V277 V278 V279
    V280 V281 V282 V283 V284 V285 V286 V287 V288 V289 V290 V291 V292 V293 V294 V295 V296 V297 V298 V299 V300 V301 V302 V303 V304 V305 V306 V307 V308 V309 V310 V311 V312 V313 V314 V315 V316 V317 V318 V319
    V320 V321 V322 V323 V324 V325 V326 V327 V328 V329 V330 V331 hF
  obtain ⟨-, -, e2, e4, -⟩ := hF
  replace e2 : V2 = .pointer (some ⟨z, 0, none⟩) := e2
  subst e2
  replace e4 : V4 = .pointer (some ⟨lb, 0, none⟩) := e4
  subst e4
  conv in dCode Try.f15 3 => whnf
  refine wp_region_held_drew (S := fun w' => w'.cell? ⟨lb, 0, none⟩ = some (.pointer (some ⟨rb, 0, none⟩))) (by kernel_rfl) c (fun hHeld => ?_)
  refine wpAnyH_take (i := 0) (v := ?_) rfl (by kernel_rfl) (by kernel_rfl) (by kernel_rfl) (fun _ _ _ h => hP _ _ _ _ (by rfl) h) (Or.inl ⟨by rfl, ?_⟩) hHeld ?_
  rotate_left
  · (intro w hSw; (try dsimp only at hSw); go_simp; try with_reducible rfl)
  simp only [List.getElem_toArray, List.getElem_cons_zero, List.getElem_cons_succ, Act.put, List.setIfInBounds_toArray, List.set_cons_zero, List.set_cons_succ]
  refine wpAnyH_take (i := 1) (v := ?_) rfl (by kernel_rfl) (by kernel_rfl) (by kernel_rfl) (fun _ _ _ h => hP _ _ _ _ (by rfl) h) (Or.inl ⟨by rfl, ?_⟩) hHeld ?_
  rotate_left
  · (intro w hSw; (try dsimp only at hSw); go_simp; try with_reducible rfl)
  simp only [List.getElem_toArray, List.getElem_cons_zero, List.getElem_cons_succ, Act.put, List.setIfInBounds_toArray, List.set_cons_zero, List.set_cons_succ]
  refine wpAnyH_take (i := 2) (v := ?_) rfl (by kernel_rfl) (by kernel_rfl) (by kernel_rfl) (fun _ _ _ h => hP _ _ _ _ (by rfl) h) (Or.inl ⟨by rfl, ?_⟩) hHeld ?_
  rotate_left
  · (intro w hSw; (try dsimp only at hSw); go_simp; try with_reducible rfl)
  simp only [List.getElem_toArray, List.getElem_cons_zero, List.getElem_cons_succ, Act.put, List.setIfInBounds_toArray, List.set_cons_zero, List.set_cons_succ]
  refine wpAnyH_take (i := 3) (v := ?_) rfl (by kernel_rfl) (by kernel_rfl) (by kernel_rfl) (fun _ _ _ h => hP _ _ _ _ (by rfl) h) (Or.inl ⟨by rfl, ?_⟩) hHeld ?_
  rotate_left
  · (intro w hSw; (try dsimp only at hSw); go_simp; try with_reducible rfl)
  simp only [List.getElem_toArray, List.getElem_cons_zero, List.getElem_cons_succ, Act.put, List.setIfInBounds_toArray, List.set_cons_zero, List.set_cons_succ]
  refine wpAnyH_take (i := 5) (v := ?_) rfl (by kernel_rfl) (by kernel_rfl) (by kernel_rfl) (fun _ _ _ h => hP _ _ _ _ (by rfl) h) (Or.inl ⟨by rfl, ?_⟩) hHeld ?_
  rotate_left
  · (intro w hSw; (try dsimp only at hSw); go_simp; try with_reducible rfl)
  simp only [List.getElem_toArray, List.getElem_cons_zero, List.getElem_cons_succ, Act.put, List.setIfInBounds_toArray, List.set_cons_zero, List.set_cons_succ]
  refine wpAnyH_take (i := 6) (v := ?_) rfl (by kernel_rfl) (by kernel_rfl) (by kernel_rfl) (fun _ _ _ h => hP _ _ _ _ (by rfl) h) (Or.inl ⟨by rfl, ?_⟩) hHeld ?_
  rotate_left
  · (intro w hSw; (try dsimp only at hSw); go_simp; try with_reducible rfl)
  simp only [List.getElem_toArray, List.getElem_cons_zero, List.getElem_cons_succ, Act.put, List.setIfInBounds_toArray, List.set_cons_zero, List.set_cons_succ]
  refine wpAnyH_take (i := 7) (v := ?_) rfl (by kernel_rfl) (by kernel_rfl) (by kernel_rfl) (fun _ _ _ h => hP _ _ _ _ (by rfl) h) (Or.inl ⟨by rfl, ?_⟩) hHeld ?_
  rotate_left
  · (intro w hSw; (try dsimp only at hSw); go_simp; try with_reducible rfl)
  simp only [List.getElem_toArray, List.getElem_cons_zero, List.getElem_cons_succ, Act.put, List.setIfInBounds_toArray, List.set_cons_zero, List.set_cons_succ]
  refine wpAnyH_take (i := 8) (v := ?_) rfl (by kernel_rfl) (by kernel_rfl) (by kernel_rfl) (fun _ _ _ h => hP _ _ _ _ (by rfl) h) (Or.inl ⟨by rfl, ?_⟩) hHeld ?_
  rotate_left
  · (intro w hSw; (try dsimp only at hSw); go_simp; try with_reducible rfl)
  simp only [List.getElem_toArray, List.getElem_cons_zero, List.getElem_cons_succ, Act.put, List.setIfInBounds_toArray, List.set_cons_zero, List.set_cons_succ]
  have L0 := Lib.hid (H5.out.drew)
  have T0 := Lib.hid ((Step.refl (fun x => x < wr.heap.size ∧ x ≠ rb) wr).drew)
  have hzw : wr.heap.size ≤ wr.drew.heap.size := Nat.le_refl _
  generalize wr.drew = v0 at L0 T0 hzw hHeld ⊢
  clear c
  refine wpAnyH_ready (rs := [4, 11]) (by kernel_rfl) (by simp) ?_
  refine AllReadyH.cons rfl (fun K hK => ?_) (AllReadyH.cons rfl (fun K hK => ?_) AllReadyH.nil)
  · go_simp
    refine (ldtext _ lb rb gb _ L0.out).mono ?_
    rintro e v1 ⟨name, s1, rfl, g0, k0, hl, hs, -⟩
    have L1 := Lib.hid hl
    have T1 := Lib.hid (T0.out.trans (hs.imp (fun x hx => hx.2)))
    refine hK.out _ _ ((hs.cell (p := ⟨lb, 0, none⟩) hne).trans hHeld) (fun hHeld => ?_)
    replace g0 := Lib.hid g0
    clear hK K hl hs
    try simp only [List.getElem_toArray, List.getElem_cons_zero, List.getElem_cons_succ, Act.put, List.setIfInBounds_toArray, List.set_cons_zero, List.set_cons_succ]
    refine wpAnyH_ready (rs := [9, 11]) (by kernel_rfl) (by simp) ?_
    refine AllReadyH.cons rfl (fun K hK => ?_) (AllReadyH.cons rfl (fun K hK => ?_) AllReadyH.nil)
    · go_simp
      refine (ldnum _ lb rb gb _ 1 L1.out (by decide)).mono ?_
      rintro e v2 ⟨flags, s2, rfl, g1, k1, hl, hs, -⟩
      have L2 := Lib.hid hl
      have T2 := Lib.hid (T1.out.trans (hs.imp (fun x hx => hx.2)))
      refine hK.out _ _ ((hs.cell (p := ⟨lb, 0, none⟩) hne).trans hHeld) (fun hHeld => ?_)
      replace g1 := Lib.hid g1
      clear hK K hl hs
      try simp only [List.getElem_toArray, List.getElem_cons_zero, List.getElem_cons_succ, Act.put, List.setIfInBounds_toArray, List.set_cons_zero, List.set_cons_succ]
      refine wpAnyH_take (i := 10) (v := ?_) rfl (by kernel_rfl) (by kernel_rfl) (by kernel_rfl) (fun _ _ _ h => hP _ _ _ _ (by rfl) h) (Or.inl ⟨by rfl, ?_⟩) hHeld ?_
      rotate_left
      · (intro w hSw; (try dsimp only at hSw); go_simp; try with_reducible rfl)
      simp only [List.getElem_toArray, List.getElem_cons_zero, List.getElem_cons_succ, Act.put, List.setIfInBounds_toArray, List.set_cons_zero, List.set_cons_succ]
      refine wpAnyH_ready (rs := [11]) (by kernel_rfl) (by simp) ?_
      refine AllReadyH.cons rfl (fun K hK => ?_) AllReadyH.nil
      go_simp
      have L3 := Lib.hid (L2.out.alloc (.cells #[.string ⟨#[]⟩, .int .i64 0, .slice none 0 0, .slice none 0 0, .slice none 0 0, .slice none 0 0, .slice none 0 0, .slice none 0 0, .int .i64 0, .slice none 0 0, .slice none 0 0, .slice none 0 0, .slice none 0 0, .slice none 0 0, .int .i64 0] 38 (0, 0)))
      have T3 := Lib.hid (T2.out.alloc (fun b hb => by have := hb.1; have := T2.out.size; omega) (.cells #[.string ⟨#[]⟩, .int .i64 0, .slice none 0 0, .slice none 0 0, .slice none 0 0, .slice none 0 0, .slice none 0 0, .slice none 0 0, .int .i64 0, .slice none 0 0, .slice none 0 0, .slice none 0 0, .slice none 0 0, .slice none 0 0, .int .i64 0] 38 (0, 0)))
      have FA3 := Lib.hid (heap_alloc_new v2 (.cells #[.string ⟨#[]⟩, .int .i64 0, .slice none 0 0, .slice none 0 0, .slice none 0 0, .slice none 0 0, .slice none 0 0, .slice none 0 0, .int .i64 0, .slice none 0 0, .slice none 0 0, .slice none 0 0, .slice none 0 0, .slice none 0 0, .int .i64 0] 38 (0, 0)))
      have hjb : wr.heap.size ≤ v2.heap.size := T2.out.size
      refine hK.out _ _ ((World.cell?_alloc_lt _ _ _ (World.block_lt_of_cell? _ _ hHeld)).trans hHeld) (fun hHeld => ?_)
      clear hK K
      try simp only [List.getElem_toArray, List.getElem_cons_zero, List.getElem_cons_succ, Act.put, List.setIfInBounds_toArray, List.set_cons_zero, List.set_cons_succ]
      generalize v2.alloc (.cells #[.string ⟨#[]⟩, .int .i64 0, .slice none 0 0, .slice none 0 0, .slice none 0 0, .slice none 0 0, .slice none 0 0, .slice none 0 0, .int .i64 0, .slice none 0 0, .slice none 0 0, .slice none 0 0, .slice none 0 0, .slice none 0 0, .int .i64 0] 38 (0, 0)) = v3 at *
      generalize v2.heap.size = jb at *
      refine wpAnyH_ready (rs := [12]) (by kernel_rfl) (by simp) ?_
      refine AllReadyH.cons rfl (fun K hK => ?_) AllReadyH.nil
      rw [if_pos (by rfl)]
      simp only [List.getElem_toArray, List.getElem_cons_succ, List.getElem_cons_zero]
      refine wp_store_row 38 (.tmp 5) (.tmp 34) rfl jb (#[.string ⟨name.toArray⟩, .int .i64 flags, .slice none 0 0, .slice none 0 0, .slice none 0 0, .slice none 0 0, .slice none 0 0, .slice none 0 0, .int .i64 0, .slice none 0 0, .slice none 0 0, .slice none 0 0, .slice none 0 0, .slice none 0 0, .int .i64 0]) rfl rfl _ _ FA3.out (by kernel_rfl) rfl (by simp [Value.oneCell']) ?_
      have FA4 := Lib.hid (setRow_heap _ jb _ (#[.string ⟨name.toArray⟩, .int .i64 flags, .slice none 0 0, .slice none 0 0, .slice none 0 0, .slice none 0 0, .slice none 0 0, .slice none 0 0, .int .i64 0, .slice none 0 0, .slice none 0 0, .slice none 0 0, .slice none 0 0, .slice none 0 0, .int .i64 0]) _ _ FA3.out)
      have L4 := Lib.hid (L3.out.step (step_setRow _ jb (#[.string ⟨name.toArray⟩, .int .i64 flags, .slice none 0 0, .slice none 0 0, .slice none 0 0, .slice none 0 0, .slice none 0 0, .slice none 0 0, .int .i64 0, .slice none 0 0, .slice none 0 0, .slice none 0 0, .slice none 0 0, .slice none 0 0, .int .i64 0])) (by show lb ≠ jb; omega) (by show rb ≠ jb; omega) (by show gb ≠ jb; omega))
      have T4 := Lib.hid (T3.out.trans ((step_setRow _ jb (#[.string ⟨name.toArray⟩, .int .i64 flags, .slice none 0 0, .slice none 0 0, .slice none 0 0, .slice none 0 0, .slice none 0 0, .slice none 0 0, .int .i64 0, .slice none 0 0, .slice none 0 0, .slice none 0 0, .slice none 0 0, .slice none 0 0, .int .i64 0])).imp (fun x hx => by have := hx.1; show x ≠ jb; omega)))
      refine hK.out _ _ ((cell_setRow_other _ _ _ _ (by show lb ≠ jb; omega)).trans hHeld) (fun hHeld => ?_)
      clear hK K
      try simp only [List.getElem_toArray, List.getElem_cons_zero, List.getElem_cons_succ, Act.put, List.setIfInBounds_toArray, List.set_cons_zero, List.set_cons_succ]
      refine wpAnyH_done (by kernel_rfl) ?_ _
      exact HR.out _ _ jb name flags s1 s2 ⟨by kernel_rfl, rfl, (by kernel_rfl), (by kernel_rfl), (by kernel_rfl), trivial⟩ g0.out k0 g1.out k1 L4.out FA4.out T4.out hjb
    · go_simp
      have L2 := Lib.hid (L1.out.alloc (.cells #[.string ⟨#[]⟩, .int .i64 0, .slice none 0 0, .slice none 0 0, .slice none 0 0, .slice none 0 0, .slice none 0 0, .slice none 0 0, .int .i64 0, .slice none 0 0, .slice none 0 0, .slice none 0 0, .slice none 0 0, .slice none 0 0, .int .i64 0] 38 (0, 0)))
      have T2 := Lib.hid (T1.out.alloc (fun b hb => by have := hb.1; have := T1.out.size; omega) (.cells #[.string ⟨#[]⟩, .int .i64 0, .slice none 0 0, .slice none 0 0, .slice none 0 0, .slice none 0 0, .slice none 0 0, .slice none 0 0, .int .i64 0, .slice none 0 0, .slice none 0 0, .slice none 0 0, .slice none 0 0, .slice none 0 0, .int .i64 0] 38 (0, 0)))
      have FA2 := Lib.hid (heap_alloc_new v1 (.cells #[.string ⟨#[]⟩, .int .i64 0, .slice none 0 0, .slice none 0 0, .slice none 0 0, .slice none 0 0, .slice none 0 0, .slice none 0 0, .int .i64 0, .slice none 0 0, .slice none 0 0, .slice none 0 0, .slice none 0 0, .slice none 0 0, .int .i64 0] 38 (0, 0)))
      have hjb : wr.heap.size ≤ v1.heap.size := T1.out.size
      refine hK.out _ _ ((World.cell?_alloc_lt _ _ _ (World.block_lt_of_cell? _ _ hHeld)).trans hHeld) (fun hHeld => ?_)
      clear hK K
      try simp only [List.getElem_toArray, List.getElem_cons_zero, List.getElem_cons_succ, Act.put, List.setIfInBounds_toArray, List.set_cons_zero, List.set_cons_succ]
      generalize v1.alloc (.cells #[.string ⟨#[]⟩, .int .i64 0, .slice none 0 0, .slice none 0 0, .slice none 0 0, .slice none 0 0, .slice none 0 0, .slice none 0 0, .int .i64 0, .slice none 0 0, .slice none 0 0, .slice none 0 0, .slice none 0 0, .slice none 0 0, .int .i64 0] 38 (0, 0)) = v2 at *
      generalize v1.heap.size = jb at *
      refine wpAnyH_ready (rs := [9]) (by kernel_rfl) (by simp) ?_
      refine AllReadyH.cons rfl (fun K hK => ?_) AllReadyH.nil
      go_simp
      refine (ldnum _ lb rb gb _ 1 L2.out (by decide)).mono ?_
      rintro e v3 ⟨flags, s2, rfl, g1, k1, hl, hs, -⟩
      have L3 := Lib.hid hl
      have T3 := Lib.hid (T2.out.trans (hs.imp (fun x hx => hx.2)))
      have FA3 := Lib.hid ((hs.block jb (by omega)).trans FA2.out)
      refine hK.out _ _ ((hs.cell (p := ⟨lb, 0, none⟩) hne).trans hHeld) (fun hHeld => ?_)
      replace g1 := Lib.hid g1
      clear hK K hl hs
      try simp only [List.getElem_toArray, List.getElem_cons_zero, List.getElem_cons_succ, Act.put, List.setIfInBounds_toArray, List.set_cons_zero, List.set_cons_succ]
      refine wpAnyH_take (i := 10) (v := ?_) rfl (by kernel_rfl) (by kernel_rfl) (by kernel_rfl) (fun _ _ _ h => hP _ _ _ _ (by rfl) h) (Or.inl ⟨by rfl, ?_⟩) hHeld ?_
      rotate_left
      · (intro w hSw; (try dsimp only at hSw); go_simp; try with_reducible rfl)
      simp only [List.getElem_toArray, List.getElem_cons_zero, List.getElem_cons_succ, Act.put, List.setIfInBounds_toArray, List.set_cons_zero, List.set_cons_succ]
      refine wpAnyH_ready (rs := [12]) (by kernel_rfl) (by simp) ?_
      refine AllReadyH.cons rfl (fun K hK => ?_) AllReadyH.nil
      rw [if_pos (by rfl)]
      simp only [List.getElem_toArray, List.getElem_cons_succ, List.getElem_cons_zero]
      refine wp_store_row 38 (.tmp 5) (.tmp 34) rfl jb (#[.string ⟨name.toArray⟩, .int .i64 flags, .slice none 0 0, .slice none 0 0, .slice none 0 0, .slice none 0 0, .slice none 0 0, .slice none 0 0, .int .i64 0, .slice none 0 0, .slice none 0 0, .slice none 0 0, .slice none 0 0, .slice none 0 0, .int .i64 0]) rfl rfl _ _ FA3.out (by kernel_rfl) rfl (by simp [Value.oneCell']) ?_
      have FA4 := Lib.hid (setRow_heap _ jb _ (#[.string ⟨name.toArray⟩, .int .i64 flags, .slice none 0 0, .slice none 0 0, .slice none 0 0, .slice none 0 0, .slice none 0 0, .slice none 0 0, .int .i64 0, .slice none 0 0, .slice none 0 0, .slice none 0 0, .slice none 0 0, .slice none 0 0, .int .i64 0]) _ _ FA3.out)
      have L4 := Lib.hid (L3.out.step (step_setRow _ jb (#[.string ⟨name.toArray⟩, .int .i64 flags, .slice none 0 0, .slice none 0 0, .slice none 0 0, .slice none 0 0, .slice none 0 0, .slice none 0 0, .int .i64 0, .slice none 0 0, .slice none 0 0, .slice none 0 0, .slice none 0 0, .slice none 0 0, .int .i64 0])) (by show lb ≠ jb; omega) (by show rb ≠ jb; omega) (by show gb ≠ jb; omega))
      have T4 := Lib.hid (T3.out.trans ((step_setRow _ jb (#[.string ⟨name.toArray⟩, .int .i64 flags, .slice none 0 0, .slice none 0 0, .slice none 0 0, .slice none 0 0, .slice none 0 0, .slice none 0 0, .int .i64 0, .slice none 0 0, .slice none 0 0, .slice none 0 0, .slice none 0 0, .slice none 0 0, .int .i64 0])).imp (fun x hx => by have := hx.1; show x ≠ jb; omega)))
      refine hK.out _ _ ((cell_setRow_other _ _ _ _ (by show lb ≠ jb; omega)).trans hHeld) (fun hHeld => ?_)
      clear hK K
      try simp only [List.getElem_toArray, List.getElem_cons_zero, List.getElem_cons_succ, Act.put, List.setIfInBounds_toArray, List.set_cons_zero, List.set_cons_succ]
      refine wpAnyH_done (by kernel_rfl) ?_ _
      exact HR.out _ _ jb name flags s1 s2 ⟨by kernel_rfl, rfl, (by kernel_rfl), (by kernel_rfl), (by kernel_rfl), trivial⟩ g0.out k0 g1.out k1 L4.out FA4.out T4.out hjb
  · go_simp
    have L1 := Lib.hid (L0.out.alloc (.cells #[.string ⟨#[]⟩, .int .i64 0, .slice none 0 0, .slice none 0 0, .slice none 0 0, .slice none 0 0, .slice none 0 0, .slice none 0 0, .int .i64 0, .slice none 0 0, .slice none 0 0, .slice none 0 0, .slice none 0 0, .slice none 0 0, .int .i64 0] 38 (0, 0)))
    have T1 := Lib.hid (T0.out.alloc (fun b hb => by have := hb.1; have := T0.out.size; omega) (.cells #[.string ⟨#[]⟩, .int .i64 0, .slice none 0 0, .slice none 0 0, .slice none 0 0, .slice none 0 0, .slice none 0 0, .slice none 0 0, .int .i64 0, .slice none 0 0, .slice none 0 0, .slice none 0 0, .slice none 0 0, .slice none 0 0, .int .i64 0] 38 (0, 0)))
    have FA1 := Lib.hid (heap_alloc_new v0 (.cells #[.string ⟨#[]⟩, .int .i64 0, .slice none 0 0, .slice none 0 0, .slice none 0 0, .slice none 0 0, .slice none 0 0, .slice none 0 0, .int .i64 0, .slice none 0 0, .slice none 0 0, .slice none 0 0, .slice none 0 0, .slice none 0 0, .int .i64 0] 38 (0, 0)))
    have hjb : wr.heap.size ≤ v0.heap.size := T0.out.size
    refine hK.out _ _ ((World.cell?_alloc_lt _ _ _ (World.block_lt_of_cell? _ _ hHeld)).trans hHeld) (fun hHeld => ?_)
    clear hK K
    try simp only [List.getElem_toArray, List.getElem_cons_zero, List.getElem_cons_succ, Act.put, List.setIfInBounds_toArray, List.set_cons_zero, List.set_cons_succ]
    generalize v0.alloc (.cells #[.string ⟨#[]⟩, .int .i64 0, .slice none 0 0, .slice none 0 0, .slice none 0 0, .slice none 0 0, .slice none 0 0, .slice none 0 0, .int .i64 0, .slice none 0 0, .slice none 0 0, .slice none 0 0, .slice none 0 0, .slice none 0 0, .int .i64 0] 38 (0, 0)) = v1 at *
    generalize v0.heap.size = jb at *
    refine wpAnyH_ready (rs := [4]) (by kernel_rfl) (by simp) ?_
    refine AllReadyH.cons rfl (fun K hK => ?_) AllReadyH.nil
    go_simp
    refine (ldtext _ lb rb gb _ L1.out).mono ?_
    rintro e v2 ⟨name, s1, rfl, g0, k0, hl, hs, -⟩
    have L2 := Lib.hid hl
    have T2 := Lib.hid (T1.out.trans (hs.imp (fun x hx => hx.2)))
    have FA2 := Lib.hid ((hs.block jb (by omega)).trans FA1.out)
    refine hK.out _ _ ((hs.cell (p := ⟨lb, 0, none⟩) hne).trans hHeld) (fun hHeld => ?_)
    replace g0 := Lib.hid g0
    clear hK K hl hs
    try simp only [List.getElem_toArray, List.getElem_cons_zero, List.getElem_cons_succ, Act.put, List.setIfInBounds_toArray, List.set_cons_zero, List.set_cons_succ]
    refine wpAnyH_ready (rs := [9]) (by kernel_rfl) (by simp) ?_
    refine AllReadyH.cons rfl (fun K hK => ?_) AllReadyH.nil
    go_simp
    refine (ldnum _ lb rb gb _ 1 L2.out (by decide)).mono ?_
    rintro e v3 ⟨flags, s2, rfl, g1, k1, hl, hs, -⟩
    have L3 := Lib.hid hl
    have T3 := Lib.hid (T2.out.trans (hs.imp (fun x hx => hx.2)))
    have FA3 := Lib.hid ((hs.block jb (by omega)).trans FA2.out)
    refine hK.out _ _ ((hs.cell (p := ⟨lb, 0, none⟩) hne).trans hHeld) (fun hHeld => ?_)
    replace g1 := Lib.hid g1
    clear hK K hl hs
    try simp only [List.getElem_toArray, List.getElem_cons_zero, List.getElem_cons_succ, Act.put, List.setIfInBounds_toArray, List.set_cons_zero, List.set_cons_succ]
    refine wpAnyH_take (i := 10) (v := ?_) rfl (by kernel_rfl) (by kernel_rfl) (by kernel_rfl) (fun _ _ _ h => hP _ _ _ _ (by rfl) h) (Or.inl ⟨by rfl, ?_⟩) hHeld ?_
    rotate_left
    · (intro w hSw; (try dsimp only at hSw); go_simp; try with_reducible rfl)
    simp only [List.getElem_toArray, List.getElem_cons_zero, List.getElem_cons_succ, Act.put, List.setIfInBounds_toArray, List.set_cons_zero, List.set_cons_succ]
    refine wpAnyH_ready (rs := [12]) (by kernel_rfl) (by simp) ?_
    refine AllReadyH.cons rfl (fun K hK => ?_) AllReadyH.nil
    rw [if_pos (by rfl)]
    simp only [List.getElem_toArray, List.getElem_cons_succ, List.getElem_cons_zero]
    refine wp_store_row 38 (.tmp 5) (.tmp 34) rfl jb (#[.string ⟨name.toArray⟩, .int .i64 flags, .slice none 0 0, .slice none 0 0, .slice none 0 0, .slice none 0 0, .slice none 0 0, .slice none 0 0, .int .i64 0, .slice none 0 0, .slice none 0 0, .slice none 0 0, .slice none 0 0, .slice none 0 0, .int .i64 0]) rfl rfl _ _ FA3.out (by kernel_rfl) rfl (by simp [Value.oneCell']) ?_
    have FA4 := Lib.hid (setRow_heap _ jb _ (#[.string ⟨name.toArray⟩, .int .i64 flags, .slice none 0 0, .slice none 0 0, .slice none 0 0, .slice none 0 0, .slice none 0 0, .slice none 0 0, .int .i64 0, .slice none 0 0, .slice none 0 0, .slice none 0 0, .slice none 0 0, .slice none 0 0, .int .i64 0]) _ _ FA3.out)
    have L4 := Lib.hid (L3.out.step (step_setRow _ jb (#[.string ⟨name.toArray⟩, .int .i64 flags, .slice none 0 0, .slice none 0 0, .slice none 0 0, .slice none 0 0, .slice none 0 0, .slice none 0 0, .int .i64 0, .slice none 0 0, .slice none 0 0, .slice none 0 0, .slice none 0 0, .slice none 0 0, .int .i64 0])) (by show lb ≠ jb; omega) (by show rb ≠ jb; omega) (by show gb ≠ jb; omega))
    have T4 := Lib.hid (T3.out.trans ((step_setRow _ jb (#[.string ⟨name.toArray⟩, .int .i64 flags, .slice none 0 0, .slice none 0 0, .slice none 0 0, .slice none 0 0, .slice none 0 0, .slice none 0 0, .int .i64 0, .slice none 0 0, .slice none 0 0, .slice none 0 0, .slice none 0 0, .slice none 0 0, .int .i64 0])).imp (fun x hx => by have := hx.1; show x ≠ jb; omega)))
    refine hK.out _ _ ((cell_setRow_other _ _ _ _ (by show lb ≠ jb; omega)).trans hHeld) (fun hHeld => ?_)
    clear hK K
    try simp only [List.getElem_toArray, List.getElem_cons_zero, List.getElem_cons_succ, Act.put, List.setIfInBounds_toArray, List.set_cons_zero, List.set_cons_succ]
    refine wpAnyH_done (by kernel_rfl) ?_ _
    exact HR.out _ _ jb name flags s1 s2 ⟨by kernel_rfl, rfl, (by kernel_rfl), (by kernel_rfl), (by kernel_rfl), trivial⟩ g0.out k0 g1.out k1 L4.out FA4.out T4.out hjb

end Go.Proofs.Ytbliedldlimpgaa

namespace Go.Proofs.Ytbliedldlimpgaa
set_option linter.unusedVariables false
set_option linter.unusedSimpArgs false
open Go.RowKit

set_option maxHeartbeats 64000000 in
set_option maxRecDepth 100000 in
theorem dlist6 {Q : Exit → Act → World → Prop} (hP : ∀ x a a' w, a'.defers = a.defers → Q (.panic x) a w → Q (.panic x) a' w) {a : Act} {w5 : World} {z lb rb gb ib : Nat} {s : Option (List UInt8)} {name : List UInt8} {flags sh tl : Int} {y0 y1 y3 y4 y5 y6 y7 y8 y9 y10 : Value} (hF : Fr [(2, .pointer (some ⟨z, 0, none⟩)), (4, .pointer (some ⟨lb, 0, none⟩)), (5, .pointer (some ⟨ib, 0, none⟩))] a) (hL : LD lb rb gb w5 s) (hX : w5.heap[ib]? = some (imgBlock name flags ⟨y0, y1, .slice none 0 0, y3, y4, y5, y6, y7, y8, y9, y10⟩ sh tl)) (hir : ib ≠ rb) (hil : ib ≠ lb) (hig : ib ≠ gb) (hne : lb ≠ rb) (hng : lb ≠ gb) (hib5 : ib < w5.heap.size)
    (hQ : ∀ (a' : Act) (w' : World) (m : Nat) (xs : List (List UInt8)) (s1 s2 : Option (List UInt8)) (v : Value), Fr [(2, .pointer (some ⟨z, 0, none⟩)), (4, .pointer (some ⟨lb, 0, none⟩)), (5, .pointer (some ⟨ib, 0, none⟩))] a' → Got (numP 1) s m s1 → okLen 1 m → xs.length = m → Got (manyP textP m) s1 xs s2 → (∀ x ∈ xs, (fun x => x.length ≤ 4096) x) → LD lb rb gb w' s2 → w'.heap[ib]? = some (imgBlock name flags ⟨y0, y1, v, y3, y4, y5, y6, y7, y8, y9, y10⟩ sh tl) → Step (fun x => x < w5.heap.size ∧ x ≠ rb ∧ x ≠ lb ∧ x ≠ ib) w5 w' → LB kStr (fun b => w5.heap.size ≤ b ∧ b < w'.heap.size) w' v xs → Q .normal a' w') : (dCode Try.f15 6).wp Try.prog Q a w5 := by
  have L5 := Lib.hid hL
  have X5 := Lib.hid hX
  have HQ := Lib.hid hQ
  have hz5 : w5.heap.size ≤ w5.heap.size := Nat.le_refl _
  have hlb5 := hL.lt
  have hrb5 := hL.rblt
  have hgb5 := hL.gblt
  clear hL hX hQ
  apply Fr.elim hF
  clear hF
  intro V0 V1 V2 V3 V4 V5 V6 V7 V8 V9 V10 V11 V12 V13 V14 V15 V16 V17 V18 V19 V20 V21 V22 V23 V24 V25 V26 V27 V28 V29 V30 V31 V32 V33 V34 V35 V36 V37 V38 V39
    V40 V41 V42 V43 V44 V45 V46 V47 V48 V49 V50 V51 V52 V53 V54 V55 V56 V57 V58 V59 V60 V61 V62 V63 V64 V65 V66 V67 V68 V69 V70 V71 V72 V73 V74 V75 V76 V77 V78 V79
    V80 V81 V82 V83 V84 V85 V86 V87 V88 V89 V90 V91 V92 V93 V94 V95 V96 V97 V98 V99 V100 V101 V102 V103 V104 V105 V106 V107 V108 V109 V110 V111 V112 V113 V114 V115 V116 V117 V118 V119
    V120 V121 V122 V123 V124 V125 V126 V127 V128 V129 V130 V131 V132 V133 V134 V135 V136 V137 V138 V139 V140 V141 V142 V143 V144 V145 V146 V147 V148 V149 V150 V151 V152 V153 V154 V155 V156 V157 V158 V159
    V160 V161 V162 V163 V164 V165 V166 V167 V168 V169 V170 V171 V172 V173 V174 V175 V176 V177 V178 V179 V180 V181 V182 V183 V184 V185 V186 V187 V188 V189 V190 V191 V192 V193 V194 V195 V196 V197 V198 V199
    V200 V201 V202 V203 V204 V205 V206 V207 V208 V209 V210 V211 V212 V213 V214 V215 V216 V217 V218 V219 V220 V221 V222 V223 V224 V225 V226 V227 V228 V229 V230 V231 V232 V233 V234 V235 V236 V237 V238 V239
    V240 V241 V242 V243 V244 V245 V246 V247 V248 V249 V250 V251 V252 V253 V254 V255 V256 V257 V258 V259 V260 V261 V262 V263 V264 V265 V266 V267 V268 V269 V270 V271 V272 V273 V274 V275 V276 V277 V278 V279
    V280 V281 V282 V283 V284 V285 V286 V287 V288 V289 V290 V291 V292 V293 V294 V295 V296 V297 V298 V299 V300 V301 V302 V303 V304 V305 V306 V307 V308 V309 V310 V311 V312 V313 V314 V315 V316 V317 V318 V319
    V320 V321 V322 V323 V324 V325 V326 V327 V328 V329 V330 V331 hF
  obtain ⟨-, -, e2, e4, e5, -⟩ := hF
  replace e2 : V2 = .pointer (some ⟨z, 0, none⟩) := e2
  subst e2
  replace e4 : V4 = .pointer (some ⟨lb, 0, none⟩) := e4
  subst e4
  replace e5 : V5 = .pointer (some ⟨ib, 0, none⟩) := e5
  subst e5
  conv in dCode Try.f15 6 => whnf
  have c0 := L5.out.cell
  have L0 := L5
  have T0 := Lib.hid (Step.refl (fun x => x < w5.heap.size ∧ x ≠ rb) w5)
  have HN := Lib.hid (ldnum w5 lb rb gb _ 1 L0.out (by decide))
  go_wp2_with fail
  refine HN.out.mono ?_
  clear HN
  rintro e v1 ⟨nxs, t6, rfl, Gnxs, Knxs, hl, hs, -⟩
  have hzv1 := hs.size
  have L1 := Lib.hid hl
  replace Gnxs := Lib.hid Gnxs
  replace Knxs := Lib.hid Knxs
  have T1 := Lib.hid (T0.out.trans (hs.imp (fun x hx => hx.2)))
  clear hl hs L0 T0
  clear c0
  obtain ⟨m1, rfl, hmm1⟩ := okN_idx (by decide) Knxs.out
  have hm1 : m1 < 256 := hmm1
  replace hmm1 := Lib.hid hmm1
  have c1 := L1.out.cell
  have HN := Lib.hid (ldtexts v1 lb rb gb _ m1 L1.out (by omega))
  go_wp2_with fail
  refine HN.out.mono ?_
  clear HN
  rintro e v2 ⟨yxs, rfl, hq⟩
  obtain ⟨xs, u6, Zxs, Kxs, Gxs, hl, hs, HBk⟩ := LQ.done v1.heap.size (Nat.le_refl _) hq
  clear hq
  replace Zxs := Lib.hid Zxs
  replace HBk := Lib.hid HBk
  have hzv2 := hs.size
  have L2 := Lib.hid hl
  replace Gxs := Lib.hid Gxs
  replace Kxs := Lib.hid Kxs
  have T2 := Lib.hid (T1.out.trans (hs.imp (fun x hx => ⟨by have := hx.1; omega, hx.2⟩)))
  clear hl hs L1 T1
  clear c1
  obtain ⟨ya, yc, rfl⟩ := HBk.out.form
  have XI := Lib.hid ((T2.out.block ib ⟨by omega, hir⟩).trans X5.out)
  have cI : v2.cell? ⟨ib, 4, none⟩ = some (.slice none 0 0) := by rw [Lib.cell_of_heap XI.out]; rfl
  have fI : v2.frozen? ⟨ib, 4, none⟩ = false := Lib.frozen_of_heap XI.out 4
  go_wp2_with fail
  have X6 := Lib.hid (setCell_row (k := 4) (.slice ya xs.length yc) XI.out)
  have L1000 := Lib.hid (L2.out.step (setCell_step _ ib 4 (.slice ya xs.length yc)) (by show lb ≠ ib; omega) (by show rb ≠ ib; omega) (by show gb ≠ ib; omega))
  have Q6 : Hid (Step (fun x => x < w5.heap.size ∧ x ≠ rb ∧ x ≠ lb ∧ x ≠ ib) w5 (v2.setCell ⟨ib, 4, none⟩ (.slice ya xs.length yc))) := Lib.hid ((T2.out.imp (fun x hx => ⟨hx.1, hx.2.1⟩)).trans ((setCell_step _ ib 4 (.slice ya xs.length yc)).imp (fun x hx => hx.2.2.2)))
  clear cI fI XI X5 L2 T2
  try clear L5
  have Pxs := Lib.hid (LB.far (B' := w5.heap.size) HBk.out (setCell_step _ ib 4 (.slice ya xs.length yc)) (fun b h _ => by show b ≠ ib; omega) (by omega))
  clear HBk
  have hz6 : w5.heap.size ≤ (v2.setCell ⟨ib, 4, none⟩ (.slice ya xs.length yc)).heap.size := by simp; omega
  have L6 := L1000
  clear L1000
  generalize v2.setCell ⟨ib, 4, none⟩ (.slice ya xs.length yc) = w6 at *
  try clear hzv1 hzv2
  exact HQ.out _ _ m1 xs _ _ (.slice ya xs.length yc) ⟨by kernel_rfl, rfl, (by kernel_rfl), (by kernel_rfl), (by kernel_rfl), trivial⟩ Gnxs.out hmm1.out Zxs.out Gxs.out Kxs.out L6.out X6.out Q6.out Pxs.out

set_option maxHeartbeats 64000000 in
set_option maxRecDepth 100000 in
theorem dlist13 {Q : Exit → Act → World → Prop} (hP : ∀ x a a' w, a'.defers = a.defers → Q (.panic x) a w → Q (.panic x) a' w) {a : Act} {w5 : World} {z lb rb gb ib : Nat} {s : Option (List UInt8)} {name : List UInt8} {flags sh tl : Int} {y0 y1 y2 y3 y4 y5 y6 y7 y9 y10 : Value} (hF : Fr [(2, .pointer (some ⟨z, 0, none⟩)), (4, .pointer (some ⟨lb, 0, none⟩)), (5, .pointer (some ⟨ib, 0, none⟩))] a) (hL : LD lb rb gb w5 s) (hX : w5.heap[ib]? = some (imgBlock name flags ⟨y0, y1, y2, y3, y4, y5, y6, y7, .slice none 0 0, y9, y10⟩ sh tl)) (hir : ib ≠ rb) (hil : ib ≠ lb) (hig : ib ≠ gb) (hne : lb ≠ rb) (hng : lb ≠ gb) (hib5 : ib < w5.heap.size)
    (hQ : ∀ (a' : Act) (w' : World) (m : Nat) (xs : List Int) (s1 s2 : Option (List UInt8)) (v : Value), Fr [(2, .pointer (some ⟨z, 0, none⟩)), (4, .pointer (some ⟨lb, 0, none⟩)), (5, .pointer (some ⟨ib, 0, none⟩))] a' → Got (numP 1) s m s1 → okLen 1 m → xs.length = m → Got (manyP (numP 4) m) s1 xs s2 → (∀ x ∈ xs, (okN 4) x) → LD lb rb gb w' s2 → w'.heap[ib]? = some (imgBlock name flags ⟨y0, y1, y2, y3, y4, y5, y6, y7, v, y9, y10⟩ sh tl) → Step (fun x => x < w5.heap.size ∧ x ≠ rb ∧ x ≠ lb ∧ x ≠ ib) w5 w' → LB kInt (fun b => w5.heap.size ≤ b ∧ b < w'.heap.size) w' v xs → Q .normal a' w') : (dCode Try.f15 13).wp Try.prog Q a w5 := by
  have L5 := Lib.hid hL
  have X5 := Lib.hid hX
  have HQ := Lib.hid hQ
  have hz5 : w5.heap.size ≤ w5.heap.size := Nat.le_refl _
  have hlb5 := hL.lt
  have hrb5 := hL.rblt
  have hgb5 := hL.gblt
  clear hL hX hQ
  apply Fr.elim hF
  clear hF
  intro V0 V1 V2 V3 V4 V5 V6 V7 V8 V9 V10 V11 V12 V13 V14 V15 V16 V17 V18 V19 V20 V21 V22 V23 V24 V25 V26 V27 V28 V29 V30 V31 V32 V33 V34 V35 V36 V37 V38 V39
    V40 V41 V42 V43 V44 V45 V46 V47 V48 V49 V50 V51 V52 V53 V54 V55 V56 V57 V58 V59 V60 V61 V62 V63 V64 V65 V66 V67 V68 V69 V70 V71 V72 V73 V74 V75 V76 V77 V78 V79
    V80 V81 V82 V83 V84 V85 V86 V87 V88 V89 V90 V91 V92 V93 V94 V95 V96 V97 V98 V99 V100 V101 V102 V103 V104 V105 V106 V107 V108 V109 V110 V111 V112 V113 V114 V115 V116 V117 V118 V119
    V120 V121 V122 V123 V124 V125 V126 V127 V128 V129 V130 V131 V132 V133 V134 V135 V136 V137 V138 V139 V140 V141 V142 V143 V144 V145 V146 V147 V148 V149 V150 V151 V152 V153 V154 V155 V156 V157 V158 V159
    V160 V161 V162 V163 V164 V165 V166 V167 V168 V169 V170 V171 V172 V173 V174 V175 V176 V177 V178 V179 V180 V181 V182 V183 V184 V185 V186 V187 V188 V189 V190 V191 V192 V193 V194 V195 V196 V197 V198 V199
    V200 V201 V202 V203 V204 V205 V206 V207 V208 V209 V210 V211 V212 V213 V214 V215 V216 V217 V218 V219 V220 V221 V222 V223 V224 V225 V226 V227 V228 V229 V230 V231 V232 V233 V234 V235 V236 V237 V238 V239
    V240 V241 V242 V243 V244 V245 V246 V247 V248 V249 V250 V251 V252 V253 V254 V255 V256 V257 V258 V259 V260 V261 V262 V263 V264 V265 V266 V267 V268 V269 V270 V271 V272 V273 V274 V275 V276 V277 V278 V279
    V280 V281 V282 V283 V284 V285 V286 V287 V288 V289 V290 V291 V292 V293 V294 V295 V296 V297 V298 V299 V300 V301 V302 V303 V304 V305 V306 V307 V308 V309 V310 V311 V312 V313 V314 V315 V316 V317 V318 V319
    V320 V321 V322 V323 V324 V325 V326 V327 V328 V329 V330 V331 hF
  obtain ⟨-, -, e2, e4, e5, -⟩ := hF
  replace e2 : V2 = .pointer (some ⟨z, 0, none⟩) := e2
  subst e2
  replace e4 : V4 = .pointer (some ⟨lb, 0, none⟩) := e4
  subst e4
  replace e5 : V5 = .pointer (some ⟨ib, 0, none⟩) := e5
  subst e5
  conv in dCode Try.f15 13 => whnf
  have c0 := L5.out.cell
  have L0 := L5
  have T0 := Lib.hid (Step.refl (fun x => x < w5.heap.size ∧ x ≠ rb) w5)
  have HN := Lib.hid (ldnum w5 lb rb gb _ 1 L0.out (by decide))
  go_wp2_with fail
  refine HN.out.mono ?_
  clear HN
  rintro e v1 ⟨nxs, t6, rfl, Gnxs, Knxs, hl, hs, -⟩
  have hzv1 := hs.size
  have L1 := Lib.hid hl
  replace Gnxs := Lib.hid Gnxs
  replace Knxs := Lib.hid Knxs
  have T1 := Lib.hid (T0.out.trans (hs.imp (fun x hx => hx.2)))
  clear hl hs L0 T0
  clear c0
  obtain ⟨m1, rfl, hmm1⟩ := okN_idx (by decide) Knxs.out
  have hm1 : m1 < 256 := hmm1
  replace hmm1 := Lib.hid hmm1
  have c1 := L1.out.cell
  have HN := Lib.hid (ldnums v1 lb rb gb _ m1 4 L1.out (by decide) (by omega))
  go_wp2_with fail
  refine HN.out.mono ?_
  clear HN
  rintro e v2 ⟨yxs, rfl, hq⟩
  obtain ⟨xs, u6, Zxs, Kxs, Gxs, hl, hs, HBk⟩ := LQ.done v1.heap.size (Nat.le_refl _) hq
  clear hq
  replace Zxs := Lib.hid Zxs
  replace HBk := Lib.hid HBk
  have hzv2 := hs.size
  have L2 := Lib.hid hl
  replace Gxs := Lib.hid Gxs
  replace Kxs := Lib.hid Kxs
  have T2 := Lib.hid (T1.out.trans (hs.imp (fun x hx => ⟨by have := hx.1; omega, hx.2⟩)))
  clear hl hs L1 T1
  clear c1
  obtain ⟨ya, yc, rfl⟩ := HBk.out.form
  have XI := Lib.hid ((T2.out.block ib ⟨by omega, hir⟩).trans X5.out)
  have cI : v2.cell? ⟨ib, 11, none⟩ = some (.slice none 0 0) := by rw [Lib.cell_of_heap XI.out]; rfl
  have fI : v2.frozen? ⟨ib, 11, none⟩ = false := Lib.frozen_of_heap XI.out 11
  go_wp2_with fail
  have X6 := Lib.hid (setCell_row (k := 11) (.slice ya xs.length yc) XI.out)
  have L1000 := Lib.hid (L2.out.step (setCell_step _ ib 11 (.slice ya xs.length yc)) (by show lb ≠ ib; omega) (by show rb ≠ ib; omega) (by show gb ≠ ib; omega))
  have Q6 : Hid (Step (fun x => x < w5.heap.size ∧ x ≠ rb ∧ x ≠ lb ∧ x ≠ ib) w5 (v2.setCell ⟨ib, 11, none⟩ (.slice ya xs.length yc))) := Lib.hid ((T2.out.imp (fun x hx => ⟨hx.1, hx.2.1⟩)).trans ((setCell_step _ ib 11 (.slice ya xs.length yc)).imp (fun x hx => hx.2.2.2)))
  clear cI fI XI X5 L2 T2
  try clear L5
  have Pxs := Lib.hid (LB.far (B' := w5.heap.size) HBk.out (setCell_step _ ib 11 (.slice ya xs.length yc)) (fun b h _ => by show b ≠ ib; omega) (by omega))
  clear HBk
  have hz6 : w5.heap.size ≤ (v2.setCell ⟨ib, 11, none⟩ (.slice ya xs.length yc)).heap.size := by simp; omega
  have L6 := L1000
  clear L1000
  generalize v2.setCell ⟨ib, 11, none⟩ (.slice ya xs.length yc) = w6 at *
  try clear hzv1 hzv2
  exact HQ.out _ _ m1 xs _ _ (.slice ya xs.length yc) ⟨by kernel_rfl, rfl, (by kernel_rfl), (by kernel_rfl), (by kernel_rfl), trivial⟩ Gnxs.out hmm1.out Zxs.out Gxs.out Kxs.out L6.out X6.out Q6.out Pxs.out

set_option maxHeartbeats 64000000 in
set_option maxRecDepth 100000 in
theorem dlist14 {Q : Exit → Act → World → Prop} (hP : ∀ x a a' w, a'.defers = a.defers → Q (.panic x) a w → Q (.panic x) a' w) {a : Act} {w5 : World} {z lb rb gb ib : Nat} {s : Option (List UInt8)} {name : List UInt8} {flags sh tl : Int} {y0 y1 y2 y3 y4 y5 y6 y7 y8 y10 : Value} (hF : Fr [(2, .pointer (some ⟨z, 0, none⟩)), (4, .pointer (some ⟨lb, 0, none⟩)), (5, .pointer (some ⟨ib, 0, none⟩))] a) (hL : LD lb rb gb w5 s) (hX : w5.heap[ib]? = some (imgBlock name flags ⟨y0, y1, y2, y3, y4, y5, y6, y7, y8, .slice none 0 0, y10⟩ sh tl)) (hir : ib ≠ rb) (hil : ib ≠ lb) (hig : ib ≠ gb) (hne : lb ≠ rb) (hng : lb ≠ gb) (hib5 : ib < w5.heap.size)
    (hQ : ∀ (a' : Act) (w' : World) (m : Nat) (xs : List Int) (s1 s2 : Option (List UInt8)) (v : Value), Fr [(2, .pointer (some ⟨z, 0, none⟩)), (4, .pointer (some ⟨lb, 0, none⟩)), (5, .pointer (some ⟨ib, 0, none⟩))] a' → Got (numP 1) s m s1 → okLen 1 m → xs.length = m → Got (manyP (numP 4) m) s1 xs s2 → (∀ x ∈ xs, (okN 4) x) → LD lb rb gb w' s2 → w'.heap[ib]? = some (imgBlock name flags ⟨y0, y1, y2, y3, y4, y5, y6, y7, y8, v, y10⟩ sh tl) → Step (fun x => x < w5.heap.size ∧ x ≠ rb ∧ x ≠ lb ∧ x ≠ ib) w5 w' → LB kInt (fun b => w5.heap.size ≤ b ∧ b < w'.heap.size) w' v xs → Q .normal a' w') : (dCode Try.f15 14).wp Try.prog Q a w5 := by
  have L5 := Lib.hid hL
  have X5 := Lib.hid hX
  have HQ := Lib.hid hQ
  have hz5 : w5.heap.size ≤ w5.heap.size := Nat.le_refl _
  have hlb5 := hL.lt
  have hrb5 := hL.rblt
  have hgb5 := hL.gblt
  clear hL hX hQ
  apply Fr.elim hF
  clear hF
  intro V0 V1 V2 V3 V4 V5 V6 V7 V8 V9 V10 V11 V12 V13 V14 V15 V16 V17 V18 V19 V20 V21 V22 V23 V24 V25 V26 V27 V28 V29 V30 V31 V32 V33 V34 V35 V36 V37 V38 V39
    V40 V41 V42 V43 V44 V45 V46 V47 V48 V49 V50 V51 V52 V53 V54 V55 V56 V57 V58 V59 V60 V61 V62 V63 V64 V65 V66 V67 V68 V69 V70 V71 V72 V73 V74 V75 V76 V77 V78 V79
    V80 V81 V82 V83 V84 V85 V86 V87 V88 V89 V90 V91 V92 V93 V94 V95 V96 V97 V98 V99 V100 V101 V102 V103 V104 V105 V106 V107 V108 V109 V110 V111 V112 V113 V114 V115 V116 V117 V118 V119
    V120 V121 V122 V123 V124 V125 V126 V127 V128 V129 V130 V131 V132 V133 V134 V135 V136 V137 V138 V139 V140 V141 V142 V143 V144 V145 V146 V147 V148 V149 V150 V151 V152 V153 V154 V155 V156 V157 V158 V159
    V160 V161 V162 V163 V164 V165 V166 V167 V168 V169 V170 V171 V172 V173 V174 V175 V176 V177 V178 V179 V180 V181 V182 V183 V184 V185 V186 V187 V188 V189 V190 V191 V192 V193 V194 V195 V196 V197 V198 V199
    V200 V201 V202 V203 V204 V205 V206 V207 V208 V209 V210 V211 V212 V213 V214 V215 V216 V217 V218 V219 V220 V221 V222 V223 V224 V225 V226 V227 V228 V229 V230 V231 V232 V233 V234 V235 V236 V237 V238 V239
    V240 V241 V242 V243 V244 V245 V246 V247 V248 V249 V250 V251 V252 V253 V254 V255 V256 V257 V258 V259 V260 V261 V262 V263 V264 V265 V266 V267 V268 V269 V270 V271 V272 V273 V274 V275 V276 V277 V278 V279
    V280 V281 V282 V283 V284 V285 V286 V287 V288 V289 V290 V291 V292 V293 V294 V295 V296 V297 V298 V299 V300 V301 V302 V303 V304 V305 V306 V307 V308 V309 V310 V311 V312 V313 V314 V315 V316 V317 V318 V319
    V320 V321 V322 V323 V324 V325 V326 V327 V328 V329 V330 V331 hF
  obtain ⟨-, -, e2, e4, e5, -⟩ := hF
  replace e2 : V2 = .pointer (some ⟨z, 0, none⟩) := e2
  subst e2
  replace e4 : V4 = .pointer (some ⟨lb, 0, none⟩) := e4
  subst e4
  replace e5 : V5 = .pointer (some ⟨ib, 0, none⟩) := e5
  subst e5
  conv in dCode Try.f15 14 => whnf
  have c0 := L5.out.cell
  have L0 := L5
  have T0 := Lib.hid (Step.refl (fun x => x < w5.heap.size ∧ x ≠ rb) w5)
  have HN := Lib.hid (ldnum w5 lb rb gb _ 1 L0.out (by decide))
  go_wp2_with fail
  refine HN.out.mono ?_
  clear HN
  rintro e v1 ⟨nxs, t6, rfl, Gnxs, Knxs, hl, hs, -⟩
  have hzv1 := hs.size
  have L1 := Lib.hid hl
  replace Gnxs := Lib.hid Gnxs
  replace Knxs := Lib.hid Knxs
  have T1 := Lib.hid (T0.out.trans (hs.imp (fun x hx => hx.2)))
  clear hl hs L0 T0
  clear c0
  obtain ⟨m1, rfl, hmm1⟩ := okN_idx (by decide) Knxs.out
  have hm1 : m1 < 256 := hmm1
  replace hmm1 := Lib.hid hmm1
  have c1 := L1.out.cell
  have HN := Lib.hid (ldnums v1 lb rb gb _ m1 4 L1.out (by decide) (by omega))
  go_wp2_with fail
  refine HN.out.mono ?_
  clear HN
  rintro e v2 ⟨yxs, rfl, hq⟩
  obtain ⟨xs, u6, Zxs, Kxs, Gxs, hl, hs, HBk⟩ := LQ.done v1.heap.size (Nat.le_refl _) hq
  clear hq
  replace Zxs := Lib.hid Zxs
  replace HBk := Lib.hid HBk
  have hzv2 := hs.size
  have L2 := Lib.hid hl
  replace Gxs := Lib.hid Gxs
  replace Kxs := Lib.hid Kxs
  have T2 := Lib.hid (T1.out.trans (hs.imp (fun x hx => ⟨by have := hx.1; omega, hx.2⟩)))
  clear hl hs L1 T1
  clear c1
  obtain ⟨ya, yc, rfl⟩ := HBk.out.form
  have XI := Lib.hid ((T2.out.block ib ⟨by omega, hir⟩).trans X5.out)
  have cI : v2.cell? ⟨ib, 12, none⟩ = some (.slice none 0 0) := by rw [Lib.cell_of_heap XI.out]; rfl
  have fI : v2.frozen? ⟨ib, 12, none⟩ = false := Lib.frozen_of_heap XI.out 12
  go_wp2_with fail
  have X6 := Lib.hid (setCell_row (k := 12) (.slice ya xs.length yc) XI.out)
  have L1000 := Lib.hid (L2.out.step (setCell_step _ ib 12 (.slice ya xs.length yc)) (by show lb ≠ ib; omega) (by show rb ≠ ib; omega) (by show gb ≠ ib; omega))
  have Q6 : Hid (Step (fun x => x < w5.heap.size ∧ x ≠ rb ∧ x ≠ lb ∧ x ≠ ib) w5 (v2.setCell ⟨ib, 12, none⟩ (.slice ya xs.length yc))) := Lib.hid ((T2.out.imp (fun x hx => ⟨hx.1, hx.2.1⟩)).trans ((setCell_step _ ib 12 (.slice ya xs.length yc)).imp (fun x hx => hx.2.2.2)))
  clear cI fI XI X5 L2 T2
  try clear L5
  have Pxs := Lib.hid (LB.far (B' := w5.heap.size) HBk.out (setCell_step _ ib 12 (.slice ya xs.length yc)) (fun b h _ => by show b ≠ ib; omega) (by omega))
  clear HBk
  have hz6 : w5.heap.size ≤ (v2.setCell ⟨ib, 12, none⟩ (.slice ya xs.length yc)).heap.size := by simp; omega
  have L6 := L1000
  clear L1000
  generalize v2.setCell ⟨ib, 12, none⟩ (.slice ya xs.length yc) = w6 at *
  try clear hzv1 hzv2
  exact HQ.out _ _ m1 xs _ _ (.slice ya xs.length yc) ⟨by kernel_rfl, rfl, (by kernel_rfl), (by kernel_rfl), (by kernel_rfl), trivial⟩ Gnxs.out hmm1.out Zxs.out Gxs.out Kxs.out L6.out X6.out Q6.out Pxs.out

set_option maxHeartbeats 64000000 in
set_option maxRecDepth 100000 in
theorem dshift {Q : Exit → Act → World → Prop} (hP : ∀ x a a' w, a'.defers = a.defers → Q (.panic x) a w → Q (.panic x) a' w) {a : Act} {w5 : World} {z lb rb gb ib : Nat} {s : Option (List UInt8)} {name : List UInt8} {flags tl : Int} {y0 y1 y2 y3 y4 y5 y6 y7 y8 y9 y10 : Value} (hF : Fr [(2, .pointer (some ⟨z, 0, none⟩)), (4, .pointer (some ⟨lb, 0, none⟩)), (5, .pointer (some ⟨ib, 0, none⟩))] a) (hL : LD lb rb gb w5 s) (hX : w5.heap[ib]? = some (imgBlock name flags ⟨y0, y1, y2, y3, y4, y5, y6, y7, y8, y9, y10⟩ 0 tl)) (hir : ib ≠ rb) (hil : ib ≠ lb) (hig : ib ≠ gb) (hne : lb ≠ rb) (hng : lb ≠ gb) (hib5 : ib < w5.heap.size)
    (hQ : ∀ (a' : Act) (w' : World) (n : Int) (s1 : Option (List UInt8)), Fr [(2, .pointer (some ⟨z, 0, none⟩)), (4, .pointer (some ⟨lb, 0, none⟩)), (5, .pointer (some ⟨ib, 0, none⟩))] a' → Got (numP 1) s n s1 → okN 1 n → LD lb rb gb w' s1 → w'.heap[ib]? = some (imgBlock name flags ⟨y0, y1, y2, y3, y4, y5, y6, y7, y8, y9, y10⟩ n tl) → Step (fun x => x < w5.heap.size ∧ x ≠ rb ∧ x ≠ lb ∧ x ≠ ib) w5 w' → Q .normal a' w') : (dCode Try.f15 9).wp Try.prog Q a w5 := by
  have L5 := Lib.hid hL
  have X5 := Lib.hid hX
  have HQ := Lib.hid hQ
  have hz5 : w5.heap.size ≤ w5.heap.size := Nat.le_refl _
  have hlb5 := hL.lt
  have hrb5 := hL.rblt
  have hgb5 := hL.gblt
  clear hL hX hQ
  apply Fr.elim hF
  clear hF
  intro V0 V1 V2 V3 V4 V5 V6 V7 V8 V9 V10 V11 V12 V13 V14 V15 V16 V17 V18 V19 V20 V21 V22 V23 V24 V25 V26 V27 V28 V29 V30 V31 V32 V33 V34 V35 V36 V37 V38 V39
    V40 V41 V42 V43 V44 V45 V46 V47 V48 V49 V50 V51 V52 V53 V54 V55 V56 V57 V58 V59 V60 V61 V62 V63 V64 V65 V66 V67 V68 V69 V70 V71 V72 V73 V74 V75 V76 V77 V78 V79
    V80 V81 V82 V83 V84 V85 V86 V87 V88 V89 V90 V91 V92 V93 V94 V95 V96 V97 V98 V99 V100 V101 V102 V103 V104 V105 V106 V107 V108 V109 V110 V111 V112 V113 V114 V115 V116 V117 V118 V119
    V120 V121 V122 V123 V124 V125 V126 V127 V128 V129 V130 V131 V132 V133 V134 V135 V136 V137 V138 V139 V140 V141 V142 V143 V144 V145 V146 V147 V148 V149 V150 V151 V152 V153 V154 V155 V156 V157 V158 V159
    V160 V161 V162 V163 V164 V165 V166 V167 V168 V169 V170 V171 V172 V173 V174 V175 V176 V177 V178 V179 V180 V181 V182 V183 V184 V185 V186 V187 V188 V189 V190 V191 V192 V193 V194 V195 V196 V197 V198 V199
    V200 V201 V202 V203 V204 V205 V206 V207 V208 V209 V210 V211 V212 V213 V214 V215 V216 V217 V218 V219 V220 V221 V222 V223 V224 V225 V226 V227 V228 V229 V230 V231 V232 V233 V234 V235 V236 V237 V238 V239
    V240 V241 V242 V243 V244 V245 V246 V247 V248 V249 V250 V251 V252 V253 V254 V255 V256 V257 V258 V259 V260 V261 V262 V263 V264 V265 V266 V267 V268 V269 V270 V271 V272 V273 V274 V275 V276 V277 V278 V279
    V280 V281 V282 V283 V284 V285 V286 V287 V288 V289 V290 V291 V292 V293 V294 V295 V296 V297 V298 V299 V300 V301 V302 V303 V304 V305 V306 V307 V308 V309 V310 V311 V312 V313 V314 V315 V316 V317 V318 V319
    V320 V321 V322 V323 V324 V325 V326 V327 V328 V329 V330 V331 hF
  obtain ⟨-, -, e2, e4, e5, -⟩ := hF
  replace e2 : V2 = .pointer (some ⟨z, 0, none⟩) := e2
  subst e2
  replace e4 : V4 = .pointer (some ⟨lb, 0, none⟩) := e4
  subst e4
  replace e5 : V5 = .pointer (some ⟨ib, 0, none⟩) := e5
  subst e5
  conv in dCode Try.f15 9 => whnf
  have c0 := L5.out.cell
  have L0 := L5
  have T0 := Lib.hid (Step.refl (fun x => x < w5.heap.size ∧ x ≠ rb) w5)
  have HN := Lib.hid (ldnum w5 lb rb gb _ 1 L0.out (by decide))
  go_wp2_with fail
  refine HN.out.mono ?_
  clear HN
  rintro e v1 ⟨shift, s1, rfl, Gshift, Kshift, hl, hs, -⟩
  have hzv1 := hs.size
  have L1 := Lib.hid hl
  replace Gshift := Lib.hid Gshift
  replace Kshift := Lib.hid Kshift
  have T1 := Lib.hid (T0.out.trans (hs.imp (fun x hx => hx.2)))
  clear hl hs L0 T0
  clear c0
  have XI := Lib.hid ((T1.out.block ib ⟨by omega, hir⟩).trans X5.out)
  have cI : v1.cell? ⟨ib, 8, none⟩ = some (.int .i64 0) := by rw [Lib.cell_of_heap XI.out]; rfl
  have fI : v1.frozen? ⟨ib, 8, none⟩ = false := Lib.frozen_of_heap XI.out 8
  go_wp2_with fail
  have X6 := Lib.hid (setCell_row (k := 8) (.int .i64 shift) XI.out)
  have L1000 := Lib.hid (L1.out.step (setCell_step _ ib 8 (.int .i64 shift)) (by show lb ≠ ib; omega) (by show rb ≠ ib; omega) (by show gb ≠ ib; omega))
  have Q6 : Hid (Step (fun x => x < w5.heap.size ∧ x ≠ rb ∧ x ≠ lb ∧ x ≠ ib) w5 (v1.setCell ⟨ib, 8, none⟩ (.int .i64 shift))) := Lib.hid ((T1.out.imp (fun x hx => ⟨hx.1, hx.2.1⟩)).trans ((setCell_step _ ib 8 (.int .i64 shift)).imp (fun x hx => hx.2.2.2)))
  clear cI fI XI X5 L1 T1
  try clear L5
  have hz6 : w5.heap.size ≤ (v1.setCell ⟨ib, 8, none⟩ (.int .i64 shift)).heap.size := by simp; omega
  have L6 := L1000
  clear L1000
  generalize v1.setCell ⟨ib, 8, none⟩ (.int .i64 shift) = w6 at *
  try clear hzv1
  exact HQ.out _ _ shift _ ⟨by kernel_rfl, rfl, (by kernel_rfl), (by kernel_rfl), (by kernel_rfl), trivial⟩ Gshift.out Kshift.out L6.out X6.out Q6.out

end Go.Proofs.Ytbliedldlimpgaa

namespace Go.Proofs.Ytbliedldlimpgaa
set_option linter.unusedVariables false
set_option linter.unusedSimpArgs false
open Go.RowKit

set_option maxHeartbeats 64000000 in
set_option maxRecDepth 100000 in
theorem dend {w : World} {l : List UInt8} {a : Act} {w5 : World} {B lb rb gb ib : Nat} {s : Option (List UInt8)} {name : List UInt8} {flags sh : Int} {y0 y1 y2 y3 y4 y5 y6 y7 y8 y9 : Value} {segs : List SegL} {needs : List NeedL} {runPath : List (List UInt8)} {syms : List SymL} {buckets : List (List Int)} {words : List Int} {relocs : List RelL} {slots : List SlotL} {init fini : List Int} (hF : Fr [(2, .pointer (some ⟨w.heap.size, 0, none⟩)), (4, .pointer (some ⟨lb, 0, none⟩)), (5, .pointer (some ⟨ib, 0, none⟩))] a) (hL : LD lb rb gb w5 s) (hX : w5.heap[ib]? = some (imgBlock name flags ⟨y0, y1, y2, y3, y4, y5, y6, y7, y8, y9, .slice none 0 0⟩ sh 0)) (hir : ib ≠ rb) (hil : ib ≠ lb) (hig : ib ≠ gb) (hne : lb ≠ rb) (hng : lb ≠ gb) (hib5 : ib < w5.heap.size)
    (hwB : w.heap.size < B) (hlB : lb < B) (hrB : rb < B) (hiB : ib < B) (hB5 : B ≤ w5.heap.size) (hzl : w.heap.size ≠ lb) (hwl : w.heap.size ≤ lb) (hwr : w.heap.size < rb) (hwi : w.heap.size < ib)
    (hFZ : w5.heap[w.heap.size]? = some (.cells #[.string ⟨#[]⟩, .int .i64 0, .slice none 0 0, .slice none 0 0, .slice none 0 0, .slice none 0 0, .slice none 0 0, .slice none 0 0, .int .i64 0, .slice none 0 0, .slice none 0 0, .slice none 0 0, .slice none 0 0, .slice none 0 0, .int .i64 0] 38 (0, 0))) (hB0 : Below w.heap.size w w5)
    (hM : ImgM (fun b => B ≤ b ∧ b < w5.heap.size) w5 ⟨y0, y1, y2, y3, y4, y5, y6, y7, y8, y9, .slice none 0 0⟩ ⟨name, flags, segs, needs, runPath, syms, buckets, words, sh, relocs, slots, init, fini, [], 0⟩)
    (hA : ∀ x st', Got (bindP (numP 2) fun tlsSize => bindP blockP fun tls t => some ((⟨name, flags, segs, needs, runPath, syms, buckets, words, sh, relocs, slots, init, fini, tls, tlsSize⟩ : ImgL), t)) s x st' → Got imgP (some l) x st') :
    (dRest Try.f15 15).wp Try.prog (bodyPost Try.prog Try.f15 (fun e w' => ∃ v, e = .returned (.tuple #[.agg (imgCells v (decL l).1), .int .i64 (decL l).2]) ∧ Below w.heap.size w w' ∧ ImgM (fun b => w.heap.size ≤ b ∧ b < w'.heap.size) w' v (decL l).1)) a w5 := by
  have L5 := Lib.hid hL
  have X5 := Lib.hid hX
  have FZ0 := Lib.hid hFZ
  have HB0 := Lib.hid hB0
  have HM0 := Lib.hid hM
  have HA0 := Lib.hid hA
  have hlb5 := hL.lt
  have hrb5 := hL.rblt
  have hgb5 := hL.gblt
  have hz5 : w5.heap.size ≤ w5.heap.size := Nat.le_refl _
  clear hL hX hFZ hB0 hM hA
  apply Fr.elim hF
  clear hF
  intro V0 V1 V2 V3 V4 V5 V6 V7 V8 V9 V10 V11 V12 V13 V14 V15 V16 V17 V18 V19 V20 V21 V22 V23 V24 V25 V26 V27 V28 V29 V30 V31 V32 V33 V34 V35 V36 V37 V38 V39
    V40 V41 V42 V43 V44 V45 V46 V47 V48 V49 V50 V51 V52 V53 V54 V55 V56 V57 V58 V59 V60 V61 V62 V63 V64 V65 V66 V67 V68 V69 V70 V71 V72 V73 V74 V75 V76 V77 V78 V79
    V80 V81 V82 V83 V84 V85 V86 V87 V88 V89 V90 V91 V92 V93 V94 V95 V96 V97 V98 V99 V100 V101 V102 V103 V104 V105 V106 V107 V108 V109 V110 V111 V112 V113 V114 V115 V116 V117 V118 V119
    V120 V121 V122 V123 V124 V125 V126 V127 V128 V129 V130 V131 V132 V133 V134 V135 V136 V137 V138 V139 V140 V141 V142 V143 V144 V145 V146 V147 V148 V149 V150 V151 V152 V153 V154 V155 V156 V157 V158 V159
    V160 V161 V162 V163 V164 V165 V166 V167 V168 V169 V170 V171 V172 V173 V174 V175 V176 V177 V178 V179 V180 V181 V182 V183 V184 V185 V186 V187 V188 V189 V190 V191 V192 V193 V194 V195 V196 V197 V198 V199
    V200 V201 V202 V203 V204 V205 V206 V207 V208 V209 V210 V211 V212 V213 V214 V215 V216 V217 V218 V219 V220 V221 V222 V223 V224 V225 V226 V227 V228 V229 V230 V231 V232 V233 V234 V235 V236 V237 V238 V239
    V240 V241 V242 V243 V244 V245 V246 V247 V248 V249 V250 V251 V252 V253 V254 V255 V256 V257 V258 V259 V260 V261 V262 V263 V264 V265 V266 V267 V268 V269 V270 V271 V272 V273 V274 V275 V276 V277 V278 V279
    V280 V281 V282 V283 V284 V285 V286 V287 V288 V289 V290 V291 V292 V293 V294 V295 V296 V297 V298 V299 V300 V301 V302 V303 V304 V305 V306 V307 V308 V309 V310 V311 V312 V313 V314 V315 V316 V317 V318 V319
    V320 V321 V322 V323 V324 V325 V326 V327 V328 V329 V330 V331 hF
  obtain ⟨-, -, e2, e4, e5, -⟩ := hF
  replace e2 : V2 = .pointer (some ⟨w.heap.size, 0, none⟩) := e2
  subst e2
  replace e4 : V4 = .pointer (some ⟨lb, 0, none⟩) := e4
  subst e4
  replace e5 : V5 = .pointer (some ⟨ib, 0, none⟩) := e5
  subst e5
  conv in dRest _ 15 => whnf
  have hP : ∀ (x : List PanicEntry) (a a' : Act) (w0 : World), a'.defers = a.defers → bodyPost Try.prog Try.f15 (fun e w' => ∃ v, e = .returned (.tuple #[.agg (imgCells v (decL l).1), .int .i64 (decL l).2]) ∧ Below w.heap.size w w' ∧ ImgM (fun b => w.heap.size ≤ b ∧ b < w'.heap.size) w' v (decL l).1) (.panic x) a w0 → bodyPost Try.prog Try.f15 (fun e w' => ∃ v, e = .returned (.tuple #[.agg (imgCells v (decL l).1), .int .i64 (decL l).2]) ∧ Below w.heap.size w w' ∧ ImgM (fun b => w.heap.size ≤ b ∧ b < w'.heap.size) w' v (decL l).1) (.panic x) a' w0 := fun _ _ _ _ e h => ⟨e.trans h.1, h.2⟩
  go_wp2_with fail
  have c' := L5.out.cell
  refine wp_region_held_drew (S := fun w' => w'.cell? ⟨lb, 0, none⟩ = some (.pointer (some ⟨rb, 0, none⟩))) (by kernel_rfl) c' (fun hHeld => ?_)
  refine wpAnyH_take (i := 0) (v := ?_) rfl (by kernel_rfl) (by kernel_rfl) (by kernel_rfl) (fun _ _ _ h => hP _ _ _ _ (by rfl) h) (Or.inl ⟨by rfl, ?_⟩) hHeld ?_
  rotate_left
  · (intro w hSw; (try dsimp only at hSw); go_simp; try with_reducible rfl)
  simp only [List.getElem_toArray, List.getElem_cons_zero, List.getElem_cons_succ, Act.put, List.setIfInBounds_toArray, List.set_cons_zero, List.set_cons_succ]
  refine wpAnyH_take (i := 1) (v := ?_) rfl (by kernel_rfl) (by kernel_rfl) (by kernel_rfl) (fun _ _ _ h => hP _ _ _ _ (by rfl) h) (Or.inl ⟨by rfl, ?_⟩) hHeld ?_
  rotate_left
  · (intro w hSw; (try dsimp only at hSw); go_simp; try with_reducible rfl)
  simp only [List.getElem_toArray, List.getElem_cons_zero, List.getElem_cons_succ, Act.put, List.setIfInBounds_toArray, List.set_cons_zero, List.set_cons_succ]
  refine wpAnyH_take (i := 2) (v := ?_) rfl (by kernel_rfl) (by kernel_rfl) (by kernel_rfl) (fun _ _ _ h => hP _ _ _ _ (by rfl) h) (Or.inl ⟨by rfl, ?_⟩) hHeld ?_
  rotate_left
  · (intro w hSw; (try dsimp only at hSw); go_simp; try with_reducible rfl)
  simp only [List.getElem_toArray, List.getElem_cons_zero, List.getElem_cons_succ, Act.put, List.setIfInBounds_toArray, List.set_cons_zero, List.set_cons_succ]
  refine wpAnyH_take (i := 3) (v := ?_) rfl (by kernel_rfl) (by kernel_rfl) (by kernel_rfl) (fun _ _ _ h => hP _ _ _ _ (by rfl) h) (Or.inl ⟨by rfl, ?_⟩) hHeld ?_
  rotate_left
  · (intro w hSw; (try dsimp only at hSw); go_simp; try with_reducible rfl)
  simp only [List.getElem_toArray, List.getElem_cons_zero, List.getElem_cons_succ, Act.put, List.setIfInBounds_toArray, List.set_cons_zero, List.set_cons_succ]
  refine wpAnyH_take (i := 5) (v := ?_) rfl (by kernel_rfl) (by kernel_rfl) (by kernel_rfl) (fun _ _ _ h => hP _ _ _ _ (by rfl) h) (Or.inl ⟨by rfl, ?_⟩) hHeld ?_
  rotate_left
  · (intro w hSw; (try dsimp only at hSw); go_simp; try with_reducible rfl)
  simp only [List.getElem_toArray, List.getElem_cons_zero, List.getElem_cons_succ, Act.put, List.setIfInBounds_toArray, List.set_cons_zero, List.set_cons_succ]
  refine wpAnyH_take (i := 6) (v := ?_) rfl (by kernel_rfl) (by kernel_rfl) (by kernel_rfl) (fun _ _ _ h => hP _ _ _ _ (by rfl) h) (Or.inl ⟨by rfl, ?_⟩) hHeld ?_
  rotate_left
  · (intro w hSw; (try dsimp only at hSw); go_simp; try with_reducible rfl)
  simp only [List.getElem_toArray, List.getElem_cons_zero, List.getElem_cons_succ, Act.put, List.setIfInBounds_toArray, List.set_cons_zero, List.set_cons_succ]
  refine wpAnyH_take (i := 7) (v := ?_) rfl (by kernel_rfl) (by kernel_rfl) (by kernel_rfl) (fun _ _ _ h => hP _ _ _ _ (by rfl) h) (Or.inl ⟨by rfl, ?_⟩) hHeld ?_
  rotate_left
  · (intro w hSw; (try dsimp only at hSw); go_simp; try with_reducible rfl)
  simp only [List.getElem_toArray, List.getElem_cons_zero, List.getElem_cons_succ, Act.put, List.setIfInBounds_toArray, List.set_cons_zero, List.set_cons_succ]
  refine wpAnyH_take (i := 8) (v := ?_) rfl (by kernel_rfl) (by kernel_rfl) (by kernel_rfl) (fun _ _ _ h => hP _ _ _ _ (by rfl) h) (Or.inl ⟨by rfl, ?_⟩) hHeld ?_
  rotate_left
  · (intro w hSw; (try dsimp only at hSw); go_simp; try with_reducible rfl)
  simp only [List.getElem_toArray, List.getElem_cons_zero, List.getElem_cons_succ, Act.put, List.setIfInBounds_toArray, List.set_cons_zero, List.set_cons_succ]
  have L0 := Lib.hid (L5.out.drew)
  have T0 := Lib.hid ((Step.refl (fun x => x < w5.heap.size ∧ x ≠ rb ∧ x ≠ lb ∧ x ≠ ib) w5).drew)
  have FS0 : Hid (w5.drew.heap[ib]? = _) := Lib.hid X5.out
  have hz0' : w5.heap.size ≤ w5.drew.heap.size := Nat.le_refl _
  generalize w5.drew = v0 at L0 T0 FS0 hz0' hHeld ⊢
  clear c' L5 X5
  refine wpAnyH_ready (rs := [4]) (by kernel_rfl) (by simp) ?_
  refine AllReadyH.cons rfl (fun K hK => ?_) AllReadyH.nil
  go_simp
  refine (ldnum _ lb rb gb _ 2 L0.out (by decide)).mono ?_
  rintro e v1 ⟨tlsSize, tA, rfl, gt, kt, hl, hs, -⟩
  have hz1 := hs.size
  have L1 := Lib.hid hl
  have T1 := Lib.hid (T0.out.trans (hs.imp (fun x hx => hx.2.1)))
  have FS1 := Lib.hid ((hs.block ib (by show ib ≠ rb; omega)).trans FS0.out)
  have gt := Lib.hid gt
  refine hK.out _ _ ((hs.cell (p := ⟨lb, 0, none⟩) hne).trans hHeld) (fun hHeld => ?_)
  clear hK K hl hs
  try simp only [List.getElem_toArray, List.getElem_cons_zero, List.getElem_cons_succ, Act.put, List.setIfInBounds_toArray, List.set_cons_zero, List.set_cons_succ]
  refine wpAnyH_take (i := 10) (v := ?_) rfl (by kernel_rfl) (by kernel_rfl) (by kernel_rfl) (fun _ _ _ h => hP _ _ _ _ (by rfl) h) (Or.inl ⟨by rfl, ?_⟩) hHeld ?_
  rotate_left
  · (intro w hSw; (try dsimp only at hSw); go_simp; try with_reducible rfl)
  simp only [List.getElem_toArray, List.getElem_cons_zero, List.getElem_cons_succ, Act.put, List.setIfInBounds_toArray, List.set_cons_zero, List.set_cons_succ]
  refine wpAnyH_ready (rs := [9]) (by kernel_rfl) (by simp) ?_
  refine AllReadyH.cons rfl (fun K hK => ?_) AllReadyH.nil
  go_simp
  refine (ldblock _ lb rb gb _ L1.out).mono ?_
  rintro e v2 ⟨_, tls, tB, rfl, ho, gl, kl, hl, hs⟩
  obtain ⟨ba, bc, rfl⟩ := ho.form
  have HBk := Lib.hid (ho.lbB plain_byte)
  have hz2 := hs.size
  have L2 := Lib.hid hl
  have T2 := Lib.hid (T1.out.trans (hs.imp (fun x hx => ⟨by have := hx.1; omega, hx.2.1⟩)))
  have FS2 := Lib.hid ((hs.block ib ⟨by show ib < _; omega, by show ib ≠ rb; omega⟩).trans FS1.out)
  have gl := Lib.hid gl
  refine hK.out _ _ ((hs.cell (p := ⟨lb, 0, none⟩) ⟨by show lb < _; omega, hne⟩).trans hHeld) (fun hHeld => ?_)
  clear hK K hl hs ho
  try simp only [List.getElem_toArray, List.getElem_cons_zero, List.getElem_cons_succ, Act.put, List.setIfInBounds_toArray, List.set_cons_zero, List.set_cons_succ]
  have cS : v2.cell? ⟨ib, 14, none⟩ = some (.int .i64 0) := by rw [Lib.cell_of_heap FS2.out]; rfl
  have fS : v2.frozen? ⟨ib, 14, none⟩ = false := Lib.frozen_of_heap FS2.out 14
  refine wpAnyH_ready (rs := [11]) (by kernel_rfl) (by simp) ?_
  refine AllReadyH.cons rfl (fun K hK => ?_) AllReadyH.nil
  go_simp
  have FS3 := Lib.hid (setCell_row (k := 14) (.int .i64 tlsSize) FS2.out)
  have L3 := Lib.hid (L2.out.step (setCell_step _ ib 14 (.int .i64 tlsSize)) (by show lb ≠ ib; omega) (by show rb ≠ ib; omega) (by show gb ≠ ib; omega))
  have T3 := Lib.hid (T2.out.trans ((setCell_step _ ib 14 (.int .i64 tlsSize)).imp (fun x hx => hx.2.2.2)))
  refine hK.out _ _ ((World.cell?_of_block (a := ⟨lb, 0, none⟩) (Below.heap_setCell _ _ _ _ (by show lb ≠ ib; omega))).trans hHeld) (fun hHeld => ?_)
  clear hK K cS fS
  try simp only [List.getElem_toArray, List.getElem_cons_zero, List.getElem_cons_succ, Act.put, List.setIfInBounds_toArray, List.set_cons_zero, List.set_cons_succ]
  replace HBk := Lib.hid (HBk.out.keeps (w' := v2.setCell ⟨ib, 14, none⟩ (.int .i64 tlsSize)) (fun b hb => Below.heap_setCell _ _ _ _ (by have := hb.2; show b ≠ ib; omega)))
  have hz3 : v2.heap.size ≤ (v2.setCell ⟨ib, 14, none⟩ (.int .i64 tlsSize)).heap.size := by simp
  generalize v2.setCell ⟨ib, 14, none⟩ (.int .i64 tlsSize) = v3 at FS3 L3 T3 hz3 hHeld HBk ⊢
  refine wpAnyH_take (i := 12) (v := ?_) rfl (by kernel_rfl) (by kernel_rfl) (by kernel_rfl) (fun _ _ _ h => hP _ _ _ _ (by rfl) h) (Or.inl ⟨by rfl, ?_⟩) hHeld ?_
  rotate_left
  · (intro w hSw; (try dsimp only at hSw); go_simp; try with_reducible rfl)
  simp only [List.getElem_toArray, List.getElem_cons_zero, List.getElem_cons_succ, Act.put, List.setIfInBounds_toArray, List.set_cons_zero, List.set_cons_succ]
  have cS : v3.cell? ⟨ib, 13, none⟩ = some (.slice none 0 0) := by rw [Lib.cell_of_heap FS3.out]; rfl
  have fS : v3.frozen? ⟨ib, 13, none⟩ = false := Lib.frozen_of_heap FS3.out 13
  refine wpAnyH_ready (rs := [13]) (by kernel_rfl) (by simp) ?_
  refine AllReadyH.cons rfl (fun K hK => ?_) AllReadyH.nil
  go_simp
  have FS4 := Lib.hid (setCell_row (k := 13) (.slice ba tls.length bc) FS3.out)
  have L4 := Lib.hid (L3.out.step (setCell_step _ ib 13 (.slice ba tls.length bc)) (by show lb ≠ ib; omega) (by show rb ≠ ib; omega) (by show gb ≠ ib; omega))
  have T4 := Lib.hid (T3.out.trans ((setCell_step _ ib 13 (.slice ba tls.length bc)).imp (fun x hx => hx.2.2.2)))
  refine hK.out _ _ ((World.cell?_of_block (a := ⟨lb, 0, none⟩) (Below.heap_setCell _ _ _ _ (by show lb ≠ ib; omega))).trans hHeld) (fun hHeld => ?_)
  clear hK K cS fS
  try simp only [List.getElem_toArray, List.getElem_cons_zero, List.getElem_cons_succ, Act.put, List.setIfInBounds_toArray, List.set_cons_zero, List.set_cons_succ]
  replace HBk := Lib.hid (HBk.out.keeps (w' := v3.setCell ⟨ib, 13, none⟩ (.slice ba tls.length bc)) (fun b hb => Below.heap_setCell _ _ _ _ (by have := hb.2; show b ≠ ib; omega)))
  have hz4 : v3.heap.size ≤ (v3.setCell ⟨ib, 13, none⟩ (.slice ba tls.length bc)).heap.size := by simp
  generalize v3.setCell ⟨ib, 13, none⟩ (.slice ba tls.length bc) = v4 at FS4 L4 T4 hz4 hHeld HBk ⊢
  refine wpAnyH_done (by kernel_rfl) ?_ _
  clear hHeld
  obtain ⟨w6, hw⟩ : ∃ x : World, x = v4 := ⟨_, rfl⟩
  subst hw
  have hz6 : w5.heap.size ≤ w6.heap.size := T4.out.size
  have FM := Lib.hid ((T4.out.block w.heap.size ⟨by omega, by omega, by omega, by omega⟩).trans FZ0.out)
  have HB : Hid (Below w.heap.size w w6) := Lib.hid (((Step.of_below HB0.out).trans (T4.out.imp (fun x hx => ⟨by omega, by omega, by omega, by omega⟩))).below)
  have HA : Hid (Got imgP (some l) (⟨name, flags, segs, needs, runPath, syms, buckets, words, sh, relocs, slots, init, fini, tls, tlsSize⟩ : ImgL) tB) := Lib.hid (HA0.out _ _ (gt.out.bind (gl.out.bind (Got.pure _ _))))
  have HM : Hid (ImgM (fun b => B ≤ b ∧ b < w6.heap.size) w6 ⟨y0, y1, y2, y3, y4, y5, y6, y7, y8, y9, (.slice ba tls.length bc)⟩ ⟨name, flags, segs, needs, runPath, syms, buckets, words, sh, relocs, slots, init, fini, tls, tlsSize⟩) := Lib.hid (
    have h := (HM0.out.keeps (fun b hb => T4.out.block b ⟨hb.2, by have := hb.1; omega, by have := hb.1; omega, by have := hb.1; omega⟩)).imp (S' := fun b => B ≤ b ∧ b < w6.heap.size) (fun b hb => ⟨hb.1, by have := hb.2; omega⟩)
    ⟨h.name, h.flags, h.segs, h.segsR, h.needed, h.runPath, h.syms, h.buckets, h.bucketsL, h.words, h.wordsR, h.shift, h.relocs, h.relocsR, h.slots, h.slotsR, h.init, h.initR, h.fini, h.finiR, HBk.out.imp (fun b hb => ⟨by have := hb.2; omega, by have := hb.1; omega⟩), okN_int64 kt⟩)
  have X6 := FS4
  have L6 := L4
  clear FS4 L4 T4 HBk HB0 FZ0 HA0 HM0 gt gl
  obtain ⟨im, him⟩ : ∃ x : ImgL, x = ⟨name, flags, segs, needs, runPath, syms, buckets, words, sh, relocs, slots, init, fini, tls, tlsSize⟩ := ⟨_, rfl⟩
  have hv : imgCells ⟨y0, y1, y2, y3, y4, y5, y6, y7, y8, y9, (.slice ba tls.length bc)⟩ im = #[.string ⟨name.toArray⟩, .int .i64 flags, y0, y1, y2, y3, y4, y5, .int .i64 sh, y6, y7, y8, y9, (.slice ba tls.length bc), .int .i64 tlsSize] := by rw [him]; rfl
  rw [← him] at HA HM
  have FZ : Hid (w6.heap[w.heap.size]? = some (.cells #[.string ⟨#[]⟩, .int .i64 0, .slice none 0 0, .slice none 0 0, .slice none 0 0, .slice none 0 0, .slice none 0 0, .slice none 0 0, .int .i64 0, .slice none 0 0, .slice none 0 0, .slice none 0 0, .slice none 0 0, .slice none 0 0, .int .i64 0] 38 (0, 0))) := FM
  have XB : Hid (w6.heap[ib]? = some (.cells #[.string ⟨name.toArray⟩, .int .i64 flags, y0, y1, y2, y3, y4, y5, .int .i64 sh, y6, y7, y8, y9, (.slice ba tls.length bc), .int .i64 tlsSize] 38 (0, 0))) := Lib.hid X6.out
  have HOne : Hid (Array.all (#[.string ⟨name.toArray⟩, .int .i64 flags, y0, y1, y2, y3, y4, y5, .int .i64 sh, y6, y7, y8, y9, (.slice ba tls.length bc), .int .i64 tlsSize]) (·.oneCell') = true) := Lib.hid (by
    have o1 := HM.out.segs.one
    have o2 := HM.out.needed.one
    have o3 := HM.out.syms.one
    have o4 := HM.out.buckets.one
    have o5 := HM.out.words.one
    have o6 := HM.out.relocs.one
    have o7 := HM.out.slots.one
    have o8 := HM.out.runPath.one
    have o9 := HM.out.init.one
    have oA := HM.out.fini.one
    simp [one_string, one_int, one_slice, o1, o2, o3, o4, o5, o6, o7, o8, o9, oA])
  have hmw : w.heap.size < w6.heap.size := by omega
  have hiw : ib < w6.heap.size := by omega
  clear him FM X6
  obtain ⟨o2, st', hh1, hh2, hh3⟩ := L6.out.ex
  have HE := Lib.hid (rend_any w6 rb gb st' hh2)
  have c24 := L6.out.cell
  have c24b : w6.cell? ⟨lb, 1, none⟩ = some (.bool o2) := by rw [Lib.cell_of_heap hh1]; rfl
  have Hu : Hid (tB = if o2 then none else st') := Lib.hid hh3
  clear hh1 hh2 hh3 L6
  go_wp2_with fail
  refine HE.out.mono ?_
  rintro e w6 ⟨⟨x, rfl, hx⟩, rfl⟩
  have Hx := Lib.hid hx
  clear hx HE
  have hfail : (x ≠ 0 ∨ o2 = true) → Hid (decL l = (emptyL, 98)) := fun h => Lib.hid (by
    have hne : tB ≠ some [] := by
      rw [Hu.out]
      intro e
      rcases h with h | h
      · cases o2 with
        | true => simp at e
        | false => exact h (Hx.out.2 (by simpa using e))
      · rw [h] at e; simp at e
    have hw : wholeP l = none := by
      unfold wholeP
      cases hp : imgP l with
      | none => rfl
      | some r =>
        obtain ⟨y, t⟩ := r
        cases t with
        | cons c t => rfl
        | nil => exact absurd hp (HA.out.not_whole hne y)
    unfold decL
    rw [hw])
  have hgood : x = 0 → o2 = false → Hid (wholeP l = some im) := fun h0 ho => Lib.hid (by
    have e : tB = some [] := by rw [Hu.out, ho]; exact Hx.out.1 h0
    have h1 := HA.out
    rw [e] at h1
    unfold wholeP
    rw [h1.whole])
  by_cases hx0 : x = 0
  · subst hx0
    cases o2 with
    | true =>
      have HD := hfail (Or.inr rfl)
      clear hfail hgood HA HM XB hv Hu Hx
      go_wp2_with (refine wpList_store_row rfl 38 (.tmp 2) (.tmp 324) rfl w.heap.size (#[.string ⟨#[]⟩, .int .i64 0, .slice none 0 0, .slice none 0 0, .slice none 0 0, .slice none 0 0, .slice none 0 0, .slice none 0 0, .int .i64 0, .slice none 0 0, .slice none 0 0, .slice none 0 0, .slice none 0 0, .slice none 0 0, .int .i64 0]) rfl rfl _ _ FZ.out (by kernel_rfl) rfl (by simp [Value.oneCell']) ?_)
      go_wp2_with fail
      have FR := Lib.hid (setRow_heap _ w.heap.size _ (#[.string ⟨#[]⟩, .int .i64 0, .slice none 0 0, .slice none 0 0, .slice none 0 0, .slice none 0 0, .slice none 0 0, .slice none 0 0, .int .i64 0, .slice none 0 0, .slice none 0 0, .slice none 0 0, .slice none 0 0, .slice none 0 0, .int .i64 0]) _ _ FZ.out)
      refine bodyPost_ret (results_row_tmp rfl _ _ w.heap.size _ _ _ _ rfl FR.out Try.underlying38 rfl (by kernel_rfl)) rfl ?_
      rw [HD.out]
      exact ⟨⟨.slice none 0 0, .slice none 0 0, .slice none 0 0, .slice none 0 0, .slice none 0 0, .slice none 0 0, .slice none 0 0, .slice none 0 0, .slice none 0 0, .slice none 0 0, .slice none 0 0⟩, rfl, ((Step.of_below HB.out).trans ((step_setRow _ w.heap.size (#[.string ⟨#[]⟩, .int .i64 0, .slice none 0 0, .slice none 0 0, .slice none 0 0, .slice none 0 0, .slice none 0 0, .slice none 0 0, .int .i64 0, .slice none 0 0, .slice none 0 0, .slice none 0 0, .slice none 0 0, .slice none 0 0, .int .i64 0])).imp (fun x hx => by show x ≠ w.heap.size; omega))).below, imgM_empty _ _⟩
    | false =>
      have HW := hgood rfl rfl
      clear hfail hgood HA Hu Hx
      have HY := Lib.hid (imay_any w6 ⟨y0, y1, y2, y3, y4, y5, y6, y7, y8, y9, (.slice ba tls.length bc)⟩ im (HM.out.imp (fun b hb => hb.2)))
      rw [hv] at HY
      obtain ⟨mm, hmm⟩ : ∃ mm, mayL im = mm := ⟨_, rfl⟩
      rw [hmm] at HY
      have Hmm := Lib.hid hmm
      clear hmm
      go_wp2_with (refine wpList_load_row rfl 38 (.tmp 5) rfl ib rfl _ _ _ _ XB.out Try.underlying38 rfl (by kernel_rfl) ?_)
      go_wp2_with fail
      refine HY.out.mono ?_
      rintro e w25 ⟨rfl, hb25⟩
      have hz25 := hb25.size
      have FZ2 := Lib.hid ((hb25.block w.heap.size hmw).trans FZ.out)
      have XB2 := Lib.hid ((hb25.block ib hiw).trans XB.out)
      have HM2 : Hid (ImgM (fun b => B ≤ b ∧ b < w25.heap.size) w25 ⟨y0, y1, y2, y3, y4, y5, y6, y7, y8, y9, (.slice ba tls.length bc)⟩ im) := Lib.hid ((HM.out.keeps (fun b hb => hb25.block b hb.2)).imp (fun b hb => ⟨hb.1, by have := hb.2; omega⟩))
      have HB2 : Hid (Below w.heap.size w w25) := Lib.hid (HB.out.trans (hb25.mono (by omega)))
      clear HM HB FZ XB HY hb25 hz25
      by_cases hm0 : mm = 0
      · subst hm0
        have HD : Hid (decL l = (im, 0)) := Lib.hid (by unfold decL; rw [HW.out]; show (if mayL im = 0 then _ else _) = _; rw [if_pos Hmm.out])
        clear HW Hmm
        go_wp2_with (first | refine wpList_load_row rfl 38 (.tmp 5) rfl ib rfl _ _ _ _ XB2.out Try.underlying38 rfl (by kernel_rfl) ?_ | refine wpList_store_row rfl 38 (.tmp 2) (.tmp 331) rfl w.heap.size (#[.string ⟨name.toArray⟩, .int .i64 flags, y0, y1, y2, y3, y4, y5, .int .i64 sh, y6, y7, y8, y9, (.slice ba tls.length bc), .int .i64 tlsSize]) rfl rfl _ _ FZ2.out (by kernel_rfl) rfl HOne.out ?_)
        go_wp2_with (first | refine wpList_load_row rfl 38 (.tmp 5) rfl ib rfl _ _ _ _ XB2.out Try.underlying38 rfl (by kernel_rfl) ?_ | refine wpList_store_row rfl 38 (.tmp 2) (.tmp 331) rfl w.heap.size (#[.string ⟨name.toArray⟩, .int .i64 flags, y0, y1, y2, y3, y4, y5, .int .i64 sh, y6, y7, y8, y9, (.slice ba tls.length bc), .int .i64 tlsSize]) rfl rfl _ _ FZ2.out (by kernel_rfl) rfl HOne.out ?_)
        go_wp2_with fail
        have FR := Lib.hid (setRow_heap _ w.heap.size _ (#[.string ⟨name.toArray⟩, .int .i64 flags, y0, y1, y2, y3, y4, y5, .int .i64 sh, y6, y7, y8, y9, (.slice ba tls.length bc), .int .i64 tlsSize]) _ _ FZ2.out)
        refine bodyPost_ret (results_row_tmp rfl _ _ w.heap.size _ _ _ _ rfl FR.out Try.underlying38 rfl (by kernel_rfl)) rfl ?_
        rw [HD.out]
        exact ⟨⟨y0, y1, y2, y3, y4, y5, y6, y7, y8, y9, (.slice ba tls.length bc)⟩, congrArg (fun c => Ending.returned (.tuple #[.agg c, .int .i64 0])) hv.symm, ((Step.of_below HB2.out).trans ((step_setRow _ w.heap.size (#[.string ⟨name.toArray⟩, .int .i64 flags, y0, y1, y2, y3, y4, y5, .int .i64 sh, y6, y7, y8, y9, (.slice ba tls.length bc), .int .i64 tlsSize])).imp (fun x hx => by show x ≠ w.heap.size; omega))).below, (HM2.out.keeps (w' := w25.setRow w.heap.size (#[.string ⟨name.toArray⟩, .int .i64 flags, y0, y1, y2, y3, y4, y5, .int .i64 sh, y6, y7, y8, y9, (.slice ba tls.length bc), .int .i64 tlsSize])) (fun b hb => setRow_other _ _ _ _ (by have := hb.1; omega))).imp (fun b hb => ⟨by have := hb.1; omega, by have := hb.2; simpa using this⟩)⟩
      · have HD : Hid (decL l = (emptyL, mm)) := Lib.hid (by unfold decL; rw [HW.out]; show (if mayL im = 0 then _ else _) = _; rw [Hmm.out, if_neg hm0])
        clear HW Hmm HM2 XB2
        go_wp2_with (refine wpList_store_row rfl 38 (.tmp 2) (.tmp 329) rfl w.heap.size (#[.string ⟨#[]⟩, .int .i64 0, .slice none 0 0, .slice none 0 0, .slice none 0 0, .slice none 0 0, .slice none 0 0, .slice none 0 0, .int .i64 0, .slice none 0 0, .slice none 0 0, .slice none 0 0, .slice none 0 0, .slice none 0 0, .int .i64 0]) rfl rfl _ _ FZ2.out (by kernel_rfl) rfl (by simp [Value.oneCell']) ?_)
        go_wp2_with fail
        have FR := Lib.hid (setRow_heap _ w.heap.size _ (#[.string ⟨#[]⟩, .int .i64 0, .slice none 0 0, .slice none 0 0, .slice none 0 0, .slice none 0 0, .slice none 0 0, .slice none 0 0, .int .i64 0, .slice none 0 0, .slice none 0 0, .slice none 0 0, .slice none 0 0, .slice none 0 0, .int .i64 0]) _ _ FZ2.out)
        refine bodyPost_ret (results_row_tmp rfl _ _ w.heap.size _ _ _ _ rfl FR.out Try.underlying38 rfl (by kernel_rfl)) rfl ?_
        rw [HD.out]
        exact ⟨⟨.slice none 0 0, .slice none 0 0, .slice none 0 0, .slice none 0 0, .slice none 0 0, .slice none 0 0, .slice none 0 0, .slice none 0 0, .slice none 0 0, .slice none 0 0, .slice none 0 0⟩, rfl, ((Step.of_below HB2.out).trans ((step_setRow _ w.heap.size (#[.string ⟨#[]⟩, .int .i64 0, .slice none 0 0, .slice none 0 0, .slice none 0 0, .slice none 0 0, .slice none 0 0, .slice none 0 0, .int .i64 0, .slice none 0 0, .slice none 0 0, .slice none 0 0, .slice none 0 0, .slice none 0 0, .int .i64 0])).imp (fun x hx => by show x ≠ w.heap.size; omega))).below, imgM_empty _ _⟩
  · have HD := hfail (Or.inl hx0)
    clear hfail hgood HA HM XB hv Hu Hx
    go_wp2_with (refine wpList_store_row rfl 38 (.tmp 2) (.tmp 324) rfl w.heap.size (#[.string ⟨#[]⟩, .int .i64 0, .slice none 0 0, .slice none 0 0, .slice none 0 0, .slice none 0 0, .slice none 0 0, .slice none 0 0, .int .i64 0, .slice none 0 0, .slice none 0 0, .slice none 0 0, .slice none 0 0, .slice none 0 0, .int .i64 0]) rfl rfl _ _ FZ.out (by kernel_rfl) rfl (by simp [Value.oneCell']) ?_)
    go_wp2_with fail
    have FR := Lib.hid (setRow_heap _ w.heap.size _ (#[.string ⟨#[]⟩, .int .i64 0, .slice none 0 0, .slice none 0 0, .slice none 0 0, .slice none 0 0, .slice none 0 0, .slice none 0 0, .int .i64 0, .slice none 0 0, .slice none 0 0, .slice none 0 0, .slice none 0 0, .slice none 0 0, .int .i64 0]) _ _ FZ.out)
    refine bodyPost_ret (results_row_tmp rfl _ _ w.heap.size _ _ _ _ rfl FR.out Try.underlying38 rfl (by kernel_rfl)) rfl ?_
    rw [HD.out]
    exact ⟨⟨.slice none 0 0, .slice none 0 0, .slice none 0 0, .slice none 0 0, .slice none 0 0, .slice none 0 0, .slice none 0 0, .slice none 0 0, .slice none 0 0, .slice none 0 0, .slice none 0 0⟩, rfl, ((Step.of_below HB.out).trans ((step_setRow _ w.heap.size (#[.string ⟨#[]⟩, .int .i64 0, .slice none 0 0, .slice none 0 0, .slice none 0 0, .slice none 0 0, .slice none 0 0, .slice none 0 0, .int .i64 0, .slice none 0 0, .slice none 0 0, .slice none 0 0, .slice none 0 0, .slice none 0 0, .int .i64 0])).imp (fun x hx => by show x ≠ w.heap.size; omega))).below, imgM_empty _ _⟩

end Go.Proofs.Ytbliedldlimpgaa

namespace Go.Proofs.Ytbliedldlimpgaa
set_option linter.unusedVariables false
set_option linter.unusedSimpArgs false
open Go.RowKit

set_option maxHeartbeats 64000000 in
set_option maxRecDepth 100000 in
theorem dreg1 {Q : Exit → Act → World → Prop} (hP : ∀ x a a' w, a'.defers = a.defers → Q (.panic x) a w → Q (.panic x) a' w) {a : Act} {wr : World} {z lb rb gb ib : Nat} {s0 : Option (List UInt8)} {v1 v2 : Value} (hF : Fr [(2, .pointer (some ⟨z, 0, none⟩)), (4, .pointer (some ⟨lb, 0, none⟩)), (5, .pointer (some ⟨ib, 0, none⟩)), (39, v1), (40, v2)] a) (H : LD lb rb gb wr s0) (hne : lb ≠ rb) (hng : lb ≠ gb)
    (hR : ∀ (a' : Act) (wc : World) (sb : Nat) (a1 a2 : Int) (s1 s2 : Option (List UInt8)), Fr [(2, .pointer (some ⟨z, 0, none⟩)), (4, .pointer (some ⟨lb, 0, none⟩)), (5, .pointer (some ⟨ib, 0, none⟩)), (39, v1), (40, v2), (6, .pointer (some ⟨sb, 0, none⟩))] a' → Got (numP 4) s0 a1 s1 → okN 4 a1 → Got (numP 4) s1 a2 s2 → okN 4 a2 → LD lb rb gb wc s2 → wc.heap[sb]? = some (.cells #[.int .i64 a1, .int .i64 a2, .slice none 0 0, .int .i64 0] 72 (0, 0)) → Step (fun x => x < wr.heap.size ∧ x ≠ rb) wr wc → wr.heap.size ≤ sb → Q .normal a' wc) : (dReg Try.f15 4).wp Try.prog Q a wr := by
  have H5 := Lib.hid H
  have HR := Lib.hid hR
  have hlb := H.lt
  have hrb := H.rblt
  have hgb := H.gblt
  have c := H.cell
  clear H hR
  apply Fr.elim hF
  clear hF
  intro V0 V1 V2 V3 V4 V5 V6 V7 V8 V9 V10 V11 V12 V13 V14 V15 V16 V17 V18 V19 V20 V21 V22 V23 V24 V25 V26 V27 V28 V29 V30 V31 V32 V33 V34 V35 V36 V37 V38 V39
    V40 V41 V42 V43 V44 V45 V46 V47 V48 V49 V50 V51 V52 V53 V54 V55 V56 V57 V58 V59 V60 V61 V62 V63 V64 V65 V66 V67 V68 V69 V70 V71 V72 V73 V74 V75 V76 V77 V78 V79
    V80 V81 V82 V83 V84 V85 V86 V87 V88 V89 V90 V91 V92 V93 V94 V95 V96 V97 V98 V99 V100 V101 V102 V103 V104 V105 V106 V107 V108 V109 V110 V111 V112 V113 V114 V115 V116 V117 V118 V119
    V120 V121 V122 V123 V124 V125 V126 V127 V128 V129 V130 V131 V132 V133 V134 V135 V136 V137 V138 V139 V140 V141 V142 V143 V144 V145 V146 V147 V148 V149 V150 V151 V152 V153 V154 V155 V156 V157 V158 V159
    V160 V161 V162 V163 V164 V165 V166 V167 V168 V169 V170 V171 V172 V173 V174 V175 V176 V177 V178 V179 V180 V181 V182 V183 V184 V185 V186 V187 V188 V189 V190 V191 V192 V193 V194 V195 V196 V197 V198 V199
    V200 V201 V202 V203 V204 V205 V206 V207 V208 V209 V210 V211 V212 V213 V214 V215 V216 V217 V218 V219 V220 V221 V222 V223 V224 V225 V226 V227 V228 V229 V230 V231 V232 V233 V234 V235 V236 V237 V238 V239
    V240 V241 V242 V243 V244 V245 V246 V247 V248 V249 V250 V251 V252 V253 V254 V255 V256 V257 V258 V259 V260 V261 V262 V263 V264 V265 V266 V267 V268 V269 V270 V271 V272 V273 V274 V275 V276 V277 V278 V279
    V280 V281 V282 V283 V284 V285 V286 V287 V288 V289 V290 V291 V292 V293 V294 V295 V296 V297 V298 V299 V300 V301 V302 V303 V304 V305 V306 V307 V308 V309 V310 V311 V312 V313 V314 V315 V316 V317 V318 V319
    V320 V321 V322 V323 V324 V325 V326 V327 V328 V329 V330 V331 hF
  obtain ⟨-, -, e2, e4, e5, e39, e40, -⟩ := hF
  replace e2 : V2 = .pointer (some ⟨z, 0, none⟩) := e2
  subst e2
  replace e4 : V4 = .pointer (some ⟨lb, 0, none⟩) := e4
  subst e4
  replace e5 : V5 = .pointer (some ⟨ib, 0, none⟩) := e5
  subst e5
  replace e39 : V39 = v1 := e39
  subst e39
  replace e40 : V40 = v2 := e40
  subst e40
  conv in dReg Try.f15 4 => whnf
  refine wp_region_held_drew (S := fun w' => w'.cell? ⟨lb, 0, none⟩ = some (.pointer (some ⟨rb, 0, none⟩))) (by kernel_rfl) c (fun hHeld => ?_)
  refine wpAnyH_take (i := 0) (v := ?_) rfl (by kernel_rfl) (by kernel_rfl) (by kernel_rfl) (fun _ _ _ h => hP _ _ _ _ (by rfl) h) (Or.inl ⟨by rfl, ?_⟩) hHeld ?_
  rotate_left
  · (intro w hSw; (try dsimp only at hSw); go_simp; try with_reducible rfl)
  simp only [List.getElem_toArray, List.getElem_cons_zero, List.getElem_cons_succ, Act.put, List.setIfInBounds_toArray, List.set_cons_zero, List.set_cons_succ]
  refine wpAnyH_take (i := 1) (v := ?_) rfl (by kernel_rfl) (by kernel_rfl) (by kernel_rfl) (fun _ _ _ h => hP _ _ _ _ (by rfl) h) (Or.inl ⟨by rfl, ?_⟩) hHeld ?_
  rotate_left
  · (intro w hSw; (try dsimp only at hSw); go_simp; try with_reducible rfl)
  simp only [List.getElem_toArray, List.getElem_cons_zero, List.getElem_cons_succ, Act.put, List.setIfInBounds_toArray, List.set_cons_zero, List.set_cons_succ]
  refine wpAnyH_take (i := 2) (v := ?_) rfl (by kernel_rfl) (by kernel_rfl) (by kernel_rfl) (fun _ _ _ h => hP _ _ _ _ (by rfl) h) (Or.inl ⟨by rfl, ?_⟩) hHeld ?_
  rotate_left
  · (intro w hSw; (try dsimp only at hSw); go_simp; try with_reducible rfl)
  simp only [List.getElem_toArray, List.getElem_cons_zero, List.getElem_cons_succ, Act.put, List.setIfInBounds_toArray, List.set_cons_zero, List.set_cons_succ]
  refine wpAnyH_take (i := 3) (v := ?_) rfl (by kernel_rfl) (by kernel_rfl) (by kernel_rfl) (fun _ _ _ h => hP _ _ _ _ (by rfl) h) (Or.inl ⟨by rfl, ?_⟩) hHeld ?_
  rotate_left
  · (intro w hSw; (try dsimp only at hSw); go_simp; try with_reducible rfl)
  simp only [List.getElem_toArray, List.getElem_cons_zero, List.getElem_cons_succ, Act.put, List.setIfInBounds_toArray, List.set_cons_zero, List.set_cons_succ]
  refine wpAnyH_take (i := 5) (v := ?_) rfl (by kernel_rfl) (by kernel_rfl) (by kernel_rfl) (fun _ _ _ h => hP _ _ _ _ (by rfl) h) (Or.inl ⟨by rfl, ?_⟩) hHeld ?_
  rotate_left
  · (intro w hSw; (try dsimp only at hSw); go_simp; try with_reducible rfl)
  simp only [List.getElem_toArray, List.getElem_cons_zero, List.getElem_cons_succ, Act.put, List.setIfInBounds_toArray, List.set_cons_zero, List.set_cons_succ]
  refine wpAnyH_take (i := 6) (v := ?_) rfl (by kernel_rfl) (by kernel_rfl) (by kernel_rfl) (fun _ _ _ h => hP _ _ _ _ (by rfl) h) (Or.inl ⟨by rfl, ?_⟩) hHeld ?_
  rotate_left
  · (intro w hSw; (try dsimp only at hSw); go_simp; try with_reducible rfl)
  simp only [List.getElem_toArray, List.getElem_cons_zero, List.getElem_cons_succ, Act.put, List.setIfInBounds_toArray, List.set_cons_zero, List.set_cons_succ]
  refine wpAnyH_take (i := 7) (v := ?_) rfl (by kernel_rfl) (by kernel_rfl) (by kernel_rfl) (fun _ _ _ h => hP _ _ _ _ (by rfl) h) (Or.inl ⟨by rfl, ?_⟩) hHeld ?_
  rotate_left
  · (intro w hSw; (try dsimp only at hSw); go_simp; try with_reducible rfl)
  simp only [List.getElem_toArray, List.getElem_cons_zero, List.getElem_cons_succ, Act.put, List.setIfInBounds_toArray, List.set_cons_zero, List.set_cons_succ]
  refine wpAnyH_take (i := 8) (v := ?_) rfl (by kernel_rfl) (by kernel_rfl) (by kernel_rfl) (fun _ _ _ h => hP _ _ _ _ (by rfl) h) (Or.inl ⟨by rfl, ?_⟩) hHeld ?_
  rotate_left
  · (intro w hSw; (try dsimp only at hSw); go_simp; try with_reducible rfl)
  simp only [List.getElem_toArray, List.getElem_cons_zero, List.getElem_cons_succ, Act.put, List.setIfInBounds_toArray, List.set_cons_zero, List.set_cons_succ]
  have L0 := Lib.hid (H5.out.drew)
  have T0 := Lib.hid ((Step.refl (fun x => x < wr.heap.size ∧ x ≠ rb) wr).drew)
  have hzw : wr.heap.size ≤ wr.drew.heap.size := Nat.le_refl _
  generalize wr.drew = v0 at L0 T0 hzw hHeld ⊢
  clear c
  refine wpAnyH_ready (rs := [4, 11]) (by kernel_rfl) (by simp) ?_
  refine AllReadyH.cons rfl (fun K hK => ?_) (AllReadyH.cons rfl (fun K hK => ?_) AllReadyH.nil)
  · go_simp
    refine (ldnum _ lb rb gb _ 4 L0.out (by decide)).mono ?_
    rintro e v1 ⟨a1, s1, rfl, g0, k0, hl, hs, -⟩
    have L1 := Lib.hid hl
    have T1 := Lib.hid (T0.out.trans (hs.imp (fun x hx => hx.2)))
    refine hK.out _ _ ((hs.cell (p := ⟨lb, 0, none⟩) hne).trans hHeld) (fun hHeld => ?_)
    replace g0 := Lib.hid g0
    clear hK K hl hs
    try simp only [List.getElem_toArray, List.getElem_cons_zero, List.getElem_cons_succ, Act.put, List.setIfInBounds_toArray, List.set_cons_zero, List.set_cons_succ]
    refine wpAnyH_ready (rs := [9, 11]) (by kernel_rfl) (by simp) ?_
    refine AllReadyH.cons rfl (fun K hK => ?_) (AllReadyH.cons rfl (fun K hK => ?_) AllReadyH.nil)
    · go_simp
      refine (ldnum _ lb rb gb _ 4 L1.out (by decide)).mono ?_
      rintro e v2 ⟨a2, s2, rfl, g1, k1, hl, hs, -⟩
      have L2 := Lib.hid hl
      have T2 := Lib.hid (T1.out.trans (hs.imp (fun x hx => hx.2)))
      refine hK.out _ _ ((hs.cell (p := ⟨lb, 0, none⟩) hne).trans hHeld) (fun hHeld => ?_)
      replace g1 := Lib.hid g1
      clear hK K hl hs
      try simp only [List.getElem_toArray, List.getElem_cons_zero, List.getElem_cons_succ, Act.put, List.setIfInBounds_toArray, List.set_cons_zero, List.set_cons_succ]
      refine wpAnyH_take (i := 10) (v := ?_) rfl (by kernel_rfl) (by kernel_rfl) (by kernel_rfl) (fun _ _ _ h => hP _ _ _ _ (by rfl) h) (Or.inl ⟨by rfl, ?_⟩) hHeld ?_
      rotate_left
      · (intro w hSw; (try dsimp only at hSw); go_simp; try with_reducible rfl)
      simp only [List.getElem_toArray, List.getElem_cons_zero, List.getElem_cons_succ, Act.put, List.setIfInBounds_toArray, List.set_cons_zero, List.set_cons_succ]
      refine wpAnyH_ready (rs := [11]) (by kernel_rfl) (by simp) ?_
      refine AllReadyH.cons rfl (fun K hK => ?_) AllReadyH.nil
      go_simp
      have L3 := Lib.hid (L2.out.alloc (.cells #[.int .i64 0, .int .i64 0, .slice none 0 0, .int .i64 0] 72 (0, 0)))
      have T3 := Lib.hid (T2.out.alloc (fun b hb => by have := hb.1; have := T2.out.size; omega) (.cells #[.int .i64 0, .int .i64 0, .slice none 0 0, .int .i64 0] 72 (0, 0)))
      have FA3 := Lib.hid (heap_alloc_new v2 (.cells #[.int .i64 0, .int .i64 0, .slice none 0 0, .int .i64 0] 72 (0, 0)))
      have hjb : wr.heap.size ≤ v2.heap.size := T2.out.size
      refine hK.out _ _ ((World.cell?_alloc_lt _ _ _ (World.block_lt_of_cell? _ _ hHeld)).trans hHeld) (fun hHeld => ?_)
      clear hK K
      try simp only [List.getElem_toArray, List.getElem_cons_zero, List.getElem_cons_succ, Act.put, List.setIfInBounds_toArray, List.set_cons_zero, List.set_cons_succ]
      generalize v2.alloc (.cells #[.int .i64 0, .int .i64 0, .slice none 0 0, .int .i64 0] 72 (0, 0)) = v3 at *
      generalize v2.heap.size = jb at *
      refine wpAnyH_ready (rs := [12]) (by kernel_rfl) (by simp) ?_
      refine AllReadyH.cons rfl (fun K hK => ?_) AllReadyH.nil
      rw [if_pos (by rfl)]
      simp only [List.getElem_toArray, List.getElem_cons_succ, List.getElem_cons_zero]
      refine wp_store_row 72 (.tmp 6) (.tmp 52) rfl jb (#[.int .i64 a1, .int .i64 a2, .slice none 0 0, .int .i64 0]) rfl rfl _ _ FA3.out (by kernel_rfl) rfl (by simp [Value.oneCell']) ?_
      have FA4 := Lib.hid (setRow_heap _ jb _ (#[.int .i64 a1, .int .i64 a2, .slice none 0 0, .int .i64 0]) _ _ FA3.out)
      have L4 := Lib.hid (L3.out.step (step_setRow _ jb (#[.int .i64 a1, .int .i64 a2, .slice none 0 0, .int .i64 0])) (by show lb ≠ jb; omega) (by show rb ≠ jb; omega) (by show gb ≠ jb; omega))
      have T4 := Lib.hid (T3.out.trans ((step_setRow _ jb (#[.int .i64 a1, .int .i64 a2, .slice none 0 0, .int .i64 0])).imp (fun x hx => by have := hx.1; show x ≠ jb; omega)))
      refine hK.out _ _ ((cell_setRow_other _ _ _ _ (by show lb ≠ jb; omega)).trans hHeld) (fun hHeld => ?_)
      clear hK K
      try simp only [List.getElem_toArray, List.getElem_cons_zero, List.getElem_cons_succ, Act.put, List.setIfInBounds_toArray, List.set_cons_zero, List.set_cons_succ]
      refine wpAnyH_done (by kernel_rfl) ?_ _
      exact HR.out _ _ jb a1 a2 s1 s2 ⟨by kernel_rfl, rfl, (by kernel_rfl), (by kernel_rfl), (by kernel_rfl), (by kernel_rfl), (by kernel_rfl), (by kernel_rfl), trivial⟩ g0.out k0 g1.out k1 L4.out FA4.out T4.out hjb
    · go_simp
      have L2 := Lib.hid (L1.out.alloc (.cells #[.int .i64 0, .int .i64 0, .slice none 0 0, .int .i64 0] 72 (0, 0)))
      have T2 := Lib.hid (T1.out.alloc (fun b hb => by have := hb.1; have := T1.out.size; omega) (.cells #[.int .i64 0, .int .i64 0, .slice none 0 0, .int .i64 0] 72 (0, 0)))
      have FA2 := Lib.hid (heap_alloc_new v1 (.cells #[.int .i64 0, .int .i64 0, .slice none 0 0, .int .i64 0] 72 (0, 0)))
      have hjb : wr.heap.size ≤ v1.heap.size := T1.out.size
      refine hK.out _ _ ((World.cell?_alloc_lt _ _ _ (World.block_lt_of_cell? _ _ hHeld)).trans hHeld) (fun hHeld => ?_)
      clear hK K
      try simp only [List.getElem_toArray, List.getElem_cons_zero, List.getElem_cons_succ, Act.put, List.setIfInBounds_toArray, List.set_cons_zero, List.set_cons_succ]
      generalize v1.alloc (.cells #[.int .i64 0, .int .i64 0, .slice none 0 0, .int .i64 0] 72 (0, 0)) = v2 at *
      generalize v1.heap.size = jb at *
      refine wpAnyH_ready (rs := [9]) (by kernel_rfl) (by simp) ?_
      refine AllReadyH.cons rfl (fun K hK => ?_) AllReadyH.nil
      go_simp
      refine (ldnum _ lb rb gb _ 4 L2.out (by decide)).mono ?_
      rintro e v3 ⟨a2, s2, rfl, g1, k1, hl, hs, -⟩
      have L3 := Lib.hid hl
      have T3 := Lib.hid (T2.out.trans (hs.imp (fun x hx => hx.2)))
      have FA3 := Lib.hid ((hs.block jb (by omega)).trans FA2.out)
      refine hK.out _ _ ((hs.cell (p := ⟨lb, 0, none⟩) hne).trans hHeld) (fun hHeld => ?_)
      replace g1 := Lib.hid g1
      clear hK K hl hs
      try simp only [List.getElem_toArray, List.getElem_cons_zero, List.getElem_cons_succ, Act.put, List.setIfInBounds_toArray, List.set_cons_zero, List.set_cons_succ]
      refine wpAnyH_take (i := 10) (v := ?_) rfl (by kernel_rfl) (by kernel_rfl) (by kernel_rfl) (fun _ _ _ h => hP _ _ _ _ (by rfl) h) (Or.inl ⟨by rfl, ?_⟩) hHeld ?_
      rotate_left
      · (intro w hSw; (try dsimp only at hSw); go_simp; try with_reducible rfl)
      simp only [List.getElem_toArray, List.getElem_cons_zero, List.getElem_cons_succ, Act.put, List.setIfInBounds_toArray, List.set_cons_zero, List.set_cons_succ]
      refine wpAnyH_ready (rs := [12]) (by kernel_rfl) (by simp) ?_
      refine AllReadyH.cons rfl (fun K hK => ?_) AllReadyH.nil
      rw [if_pos (by rfl)]
      simp only [List.getElem_toArray, List.getElem_cons_succ, List.getElem_cons_zero]
      refine wp_store_row 72 (.tmp 6) (.tmp 52) rfl jb (#[.int .i64 a1, .int .i64 a2, .slice none 0 0, .int .i64 0]) rfl rfl _ _ FA3.out (by kernel_rfl) rfl (by simp [Value.oneCell']) ?_
      have FA4 := Lib.hid (setRow_heap _ jb _ (#[.int .i64 a1, .int .i64 a2, .slice none 0 0, .int .i64 0]) _ _ FA3.out)
      have L4 := Lib.hid (L3.out.step (step_setRow _ jb (#[.int .i64 a1, .int .i64 a2, .slice none 0 0, .int .i64 0])) (by show lb ≠ jb; omega) (by show rb ≠ jb; omega) (by show gb ≠ jb; omega))
      have T4 := Lib.hid (T3.out.trans ((step_setRow _ jb (#[.int .i64 a1, .int .i64 a2, .slice none 0 0, .int .i64 0])).imp (fun x hx => by have := hx.1; show x ≠ jb; omega)))
      refine hK.out _ _ ((cell_setRow_other _ _ _ _ (by show lb ≠ jb; omega)).trans hHeld) (fun hHeld => ?_)
      clear hK K
      try simp only [List.getElem_toArray, List.getElem_cons_zero, List.getElem_cons_succ, Act.put, List.setIfInBounds_toArray, List.set_cons_zero, List.set_cons_succ]
      refine wpAnyH_done (by kernel_rfl) ?_ _
      exact HR.out _ _ jb a1 a2 s1 s2 ⟨by kernel_rfl, rfl, (by kernel_rfl), (by kernel_rfl), (by kernel_rfl), (by kernel_rfl), (by kernel_rfl), (by kernel_rfl), trivial⟩ g0.out k0 g1.out k1 L4.out FA4.out T4.out hjb
  · go_simp
    have L1 := Lib.hid (L0.out.alloc (.cells #[.int .i64 0, .int .i64 0, .slice none 0 0, .int .i64 0] 72 (0, 0)))
    have T1 := Lib.hid (T0.out.alloc (fun b hb => by have := hb.1; have := T0.out.size; omega) (.cells #[.int .i64 0, .int .i64 0, .slice none 0 0, .int .i64 0] 72 (0, 0)))
    have FA1 := Lib.hid (heap_alloc_new v0 (.cells #[.int .i64 0, .int .i64 0, .slice none 0 0, .int .i64 0] 72 (0, 0)))
    have hjb : wr.heap.size ≤ v0.heap.size := T0.out.size
    refine hK.out _ _ ((World.cell?_alloc_lt _ _ _ (World.block_lt_of_cell? _ _ hHeld)).trans hHeld) (fun hHeld => ?_)
    clear hK K
    try simp only [List.getElem_toArray, List.getElem_cons_zero, List.getElem_cons_succ, Act.put, List.setIfInBounds_toArray, List.set_cons_zero, List.set_cons_succ]
    generalize v0.alloc (.cells #[.int .i64 0, .int .i64 0, .slice none 0 0, .int .i64 0] 72 (0, 0)) = v1 at *
    generalize v0.heap.size = jb at *
    refine wpAnyH_ready (rs := [4]) (by kernel_rfl) (by simp) ?_
    refine AllReadyH.cons rfl (fun K hK => ?_) AllReadyH.nil
    go_simp
    refine (ldnum _ lb rb gb _ 4 L1.out (by decide)).mono ?_
    rintro e v2 ⟨a1, s1, rfl, g0, k0, hl, hs, -⟩
    have L2 := Lib.hid hl
    have T2 := Lib.hid (T1.out.trans (hs.imp (fun x hx => hx.2)))
    have FA2 := Lib.hid ((hs.block jb (by omega)).trans FA1.out)
    refine hK.out _ _ ((hs.cell (p := ⟨lb, 0, none⟩) hne).trans hHeld) (fun hHeld => ?_)
    replace g0 := Lib.hid g0
    clear hK K hl hs
    try simp only [List.getElem_toArray, List.getElem_cons_zero, List.getElem_cons_succ, Act.put, List.setIfInBounds_toArray, List.set_cons_zero, List.set_cons_succ]
    refine wpAnyH_ready (rs := [9]) (by kernel_rfl) (by simp) ?_
    refine AllReadyH.cons rfl (fun K hK => ?_) AllReadyH.nil
    go_simp
    refine (ldnum _ lb rb gb _ 4 L2.out (by decide)).mono ?_
    rintro e v3 ⟨a2, s2, rfl, g1, k1, hl, hs, -⟩
    have L3 := Lib.hid hl
    have T3 := Lib.hid (T2.out.trans (hs.imp (fun x hx => hx.2)))
    have FA3 := Lib.hid ((hs.block jb (by omega)).trans FA2.out)
    refine hK.out _ _ ((hs.cell (p := ⟨lb, 0, none⟩) hne).trans hHeld) (fun hHeld => ?_)
    replace g1 := Lib.hid g1
    clear hK K hl hs
    try simp only [List.getElem_toArray, List.getElem_cons_zero, List.getElem_cons_succ, Act.put, List.setIfInBounds_toArray, List.set_cons_zero, List.set_cons_succ]
    refine wpAnyH_take (i := 10) (v := ?_) rfl (by kernel_rfl) (by kernel_rfl) (by kernel_rfl) (fun _ _ _ h => hP _ _ _ _ (by rfl) h) (Or.inl ⟨by rfl, ?_⟩) hHeld ?_
    rotate_left
    · (intro w hSw; (try dsimp only at hSw); go_simp; try with_reducible rfl)
    simp only [List.getElem_toArray, List.getElem_cons_zero, List.getElem_cons_succ, Act.put, List.setIfInBounds_toArray, List.set_cons_zero, List.set_cons_succ]
    refine wpAnyH_ready (rs := [12]) (by kernel_rfl) (by simp) ?_
    refine AllReadyH.cons rfl (fun K hK => ?_) AllReadyH.nil
    rw [if_pos (by rfl)]
    simp only [List.getElem_toArray, List.getElem_cons_succ, List.getElem_cons_zero]
    refine wp_store_row 72 (.tmp 6) (.tmp 52) rfl jb (#[.int .i64 a1, .int .i64 a2, .slice none 0 0, .int .i64 0]) rfl rfl _ _ FA3.out (by kernel_rfl) rfl (by simp [Value.oneCell']) ?_
    have FA4 := Lib.hid (setRow_heap _ jb _ (#[.int .i64 a1, .int .i64 a2, .slice none 0 0, .int .i64 0]) _ _ FA3.out)
    have L4 := Lib.hid (L3.out.step (step_setRow _ jb (#[.int .i64 a1, .int .i64 a2, .slice none 0 0, .int .i64 0])) (by show lb ≠ jb; omega) (by show rb ≠ jb; omega) (by show gb ≠ jb; omega))
    have T4 := Lib.hid (T3.out.trans ((step_setRow _ jb (#[.int .i64 a1, .int .i64 a2, .slice none 0 0, .int .i64 0])).imp (fun x hx => by have := hx.1; show x ≠ jb; omega)))
    refine hK.out _ _ ((cell_setRow_other _ _ _ _ (by show lb ≠ jb; omega)).trans hHeld) (fun hHeld => ?_)
    clear hK K
    try simp only [List.getElem_toArray, List.getElem_cons_zero, List.getElem_cons_succ, Act.put, List.setIfInBounds_toArray, List.set_cons_zero, List.set_cons_succ]
    refine wpAnyH_done (by kernel_rfl) ?_ _
    exact HR.out _ _ jb a1 a2 s1 s2 ⟨by kernel_rfl, rfl, (by kernel_rfl), (by kernel_rfl), (by kernel_rfl), (by kernel_rfl), (by kernel_rfl), (by kernel_rfl), trivial⟩ g0.out k0 g1.out k1 L4.out FA4.out T4.out hjb

end Go.Proofs.Ytbliedldlimpgaa

namespace Go.Proofs.Ytbliedldlimpgaa
set_option linter.unusedVariables false
set_option linter.unusedSimpArgs false
open Go.RowKit

set_option maxHeartbeats 64000000 in
set_option maxRecDepth 100000 in
theorem dloop1 {Q : Exit → Act → World → Prop} (hP : ∀ x a a' w, a'.defers = a.defers → Q (.panic x) a w → Q (.panic x) a' w) {a : Act} {w5 : World} {z lb rb gb ib : Nat} {s : Option (List UInt8)} {name : List UInt8} {flags sh tl : Int} {y1 y2 y3 y4 y5 y6 y7 y8 y9 y10 : Value} (hF : Fr [(2, .pointer (some ⟨z, 0, none⟩)), (4, .pointer (some ⟨lb, 0, none⟩)), (5, .pointer (some ⟨ib, 0, none⟩))] a) (hL : LD lb rb gb w5 s) (hX : w5.heap[ib]? = some (imgBlock name flags ⟨.slice none 0 0, y1, y2, y3, y4, y5, y6, y7, y8, y9, y10⟩ sh tl)) (hir : ib ≠ rb) (hil : ib ≠ lb) (hig : ib ≠ gb) (hne : lb ≠ rb) (hng : lb ≠ gb) (hib5 : ib < w5.heap.size)
    (hQ : ∀ (a' : Act) (w' : World) (m : Nat) (xs : List SegL) (s1 s2 : Option (List UInt8)) (v : Value), Fr [(2, .pointer (some ⟨z, 0, none⟩)), (4, .pointer (some ⟨lb, 0, none⟩)), (5, .pointer (some ⟨ib, 0, none⟩))] a' → Got (numP 1) s m s1 → okLen 1 m → xs.length = m → Got (manyP segP m) s1 xs s2 → (∀ x ∈ xs, okSeg x) → LD lb rb gb w' s2 → w'.heap[ib]? = some (imgBlock name flags ⟨v, y1, y2, y3, y4, y5, y6, y7, y8, y9, y10⟩ sh tl) → Step (fun x => x < w5.heap.size ∧ x ≠ rb ∧ x ≠ lb ∧ x ≠ ib) w5 w' → LB kSeg (fun b => w5.heap.size ≤ b ∧ b < w'.heap.size) w' v xs → Q .normal a' w') : (dCode Try.f15 4).wp Try.prog Q a w5 := by
  have L5 := Lib.hid hL
  have X5 := Lib.hid hX
  have HQ := Lib.hid hQ
  have hz5 : w5.heap.size ≤ w5.heap.size := Nat.le_refl _
  have hlb5 := hL.lt
  have hrb5 := hL.rblt
  have hgb5 := hL.gblt
  clear hL hX hQ
  apply Fr.elim hF
  clear hF
  intro V0 V1 V2 V3 V4 V5 V6 V7 V8 V9 V10 V11 V12 V13 V14 V15 V16 V17 V18 V19 V20 V21 V22 V23 V24 V25 V26 V27 V28 V29 V30 V31 V32 V33 V34 V35 V36 V37 V38 V39
    V40 V41 V42 V43 V44 V45 V46 V47 V48 V49 V50 V51 V52 V53 V54 V55 V56 V57 V58 V59 V60 V61 V62 V63 V64 V65 V66 V67 V68 V69 V70 V71 V72 V73 V74 V75 V76 V77 V78 V79
    V80 V81 V82 V83 V84 V85 V86 V87 V88 V89 V90 V91 V92 V93 V94 V95 V96 V97 V98 V99 V100 V101 V102 V103 V104 V105 V106 V107 V108 V109 V110 V111 V112 V113 V114 V115 V116 V117 V118 V119
    V120 V121 V122 V123 V124 V125 V126 V127 V128 V129 V130 V131 V132 V133 V134 V135 V136 V137 V138 V139 V140 V141 V142 V143 V144 V145 V146 V147 V148 V149 V150 V151 V152 V153 V154 V155 V156 V157 V158 V159
    V160 V161 V162 V163 V164 V165 V166 V167 V168 V169 V170 V171 V172 V173 V174 V175 V176 V177 V178 V179 V180 V181 V182 V183 V184 V185 V186 V187 V188 V189 V190 V191 V192 V193 V194 V195 V196 V197 V198 V199
    V200 V201 V202 V203 V204 V205 V206 V207 V208 V209 V210 V211 V212 V213 V214 V215 V216 V217 V218 V219 V220 V221 V222 V223 V224 V225 V226 V227 V228 V229 V230 V231 V232 V233 V234 V235 V236 V237 V238 V239
    V240 V241 V242 V243 V244 V245 V246 V247 V248 V249 V250 V251 V252 V253 V254 V255 V256 V257 V258 V259 V260 V261 V262 V263 V264 V265 V266 V267 V268 V269 V270 V271 V272 V273 V274 V275 V276 V277 V278 V279
    V280 V281 V282 V283 V284 V285 V286 V287 V288 V289 V290 V291 V292 V293 V294 V295 V296 V297 V298 V299 V300 V301 V302 V303 V304 V305 V306 V307 V308 V309 V310 V311 V312 V313 V314 V315 V316 V317 V318 V319
    V320 V321 V322 V323 V324 V325 V326 V327 V328 V329 V330 V331 hF
  obtain ⟨-, -, e2, e4, e5, -⟩ := hF
  replace e2 : V2 = .pointer (some ⟨z, 0, none⟩) := e2
  subst e2
  replace e4 : V4 = .pointer (some ⟨lb, 0, none⟩) := e4
  subst e4
  replace e5 : V5 = .pointer (some ⟨ib, 0, none⟩) := e5
  subst e5
  conv in dCode Try.f15 4 => whnf
  have c5 := L5.out.cell
  have HN := Lib.hid (ldnum w5 lb rb gb s 1 L5.out (by decide))
  go_wp2_with fail
  refine HN.out.mono ?_
  rintro e w6 ⟨n1, t5, rfl, hg, hk, hl, hs, -⟩
  have Gn1 := Lib.hid hg
  have Kn1 := Lib.hid hk
  have L6 := Lib.hid hl
  have X6 := Lib.hid ((hs.block ib hir).trans X5.out)
  have hz6 : w5.heap.size ≤ w6.heap.size := Nat.le_trans hz5 hs.size
  have Q6 := Lib.hid (hs.imp (S' := fun x => x < w5.heap.size ∧ x ≠ rb ∧ x ≠ lb ∧ x ≠ ib) (fun x hx => hx.2.1))
  clear hg hk hl hs HN c5 X5 L5
  obtain ⟨m1, rfl, hmm1⟩ := okN_idx (by decide) Kn1.out
  have hm1 : m1 < 256 := hmm1
  go_wp2_with fail
  refine wp_loop_n (k := 40) (m := m1) (fun q a wr => q ≤ m1 ∧ Fr [(2, .pointer (some ⟨z, 0, none⟩)), (4, .pointer (some ⟨lb, 0, none⟩)), (5, .pointer (some ⟨ib, 0, none⟩)), (39, .int .i64 m1), (40, .int .i64 q)] a ∧ ∃ v, wr.heap[ib]? = some (imgBlock name flags ⟨v, y1, y2, y3, y4, y5, y6, y7, y8, y9, y10⟩ sh tl) ∧ LQ 72 kSeg segP okSeg lb rb gb (fun x => x ≠ rb ∧ x ≠ lb ∧ x ≠ ib) w6 t5 wr v q) ?_ ?_ ?_
  · exact fun q a w h => ⟨h.1, FrL.get h.2.1.2.2 (40, .int .i64 q) (by simp)⟩
  · exact ⟨Nat.zero_le _, ⟨by kernel_rfl, rfl, (by kernel_rfl), (by kernel_rfl), (by kernel_rfl), (by kernel_rfl), (by kernel_rfl), trivial⟩, _, X6.out, .start L6.out⟩
  clear X6 L6
  intro q a wr K hq hI HK
  obtain ⟨-, hF, v, hX, hlq⟩ := hI
  replace HK := Lib.hid HK
  apply Fr.elim hF
  clear hF
  clear V0 V1 V3 V6 V7 V8 V9 V10 V11 V12 V13 V14 V15 V16 V17 V18 V19 V20 V21 V22 V23 V24 V25 V26 V27 V28 V29 V30 V31 V32 V33 V34 V35 V36 V37 V38 V39 V40 V41 V42
    V43 V44 V45 V46 V47 V48 V49 V50 V51 V52 V53 V54 V55 V56 V57 V58 V59 V60 V61 V62 V63 V64 V65 V66 V67 V68 V69 V70 V71 V72 V73 V74 V75 V76 V77 V78 V79 V80 V81 V82
    V83 V84 V85 V86 V87 V88 V89 V90 V91 V92 V93 V94 V95 V96 V97 V98 V99 V100 V101 V102 V103 V104 V105 V106 V107 V108 V109 V110 V111 V112 V113 V114 V115 V116 V117 V118 V119 V120 V121 V122
    V123 V124 V125 V126 V127 V128 V129 V130 V131 V132 V133 V134 V135 V136 V137 V138 V139 V140 V141 V142 V143 V144 V145 V146 V147 V148 V149 V150 V151 V152 V153 V154 V155 V156 V157 V158 V159 V160 V161 V162
    V163 V164 V165 V166 V167 V168 V169 V170 V171 V172 V173 V174 V175 V176 V177 V178 V179 V180 V181 V182 V183 V184 V185 V186 V187 V188 V189 V190 V191 V192 V193 V194 V195 V196 V197 V198 V199 V200 V201 V202
    V203 V204 V205 V206 V207 V208 V209 V210 V211 V212 V213 V214 V215 V216 V217 V218 V219 V220 V221 V222 V223 V224 V225 V226 V227 V228 V229 V230 V231 V232 V233 V234 V235 V236 V237 V238 V239 V240 V241 V242
    V243 V244 V245 V246 V247 V248 V249 V250 V251 V252 V253 V254 V255 V256 V257 V258 V259 V260 V261 V262 V263 V264 V265 V266 V267 V268 V269 V270 V271 V272 V273 V274 V275 V276 V277 V278 V279 V280 V281 V282
    V283 V284 V285 V286 V287 V288 V289 V290 V291 V292 V293 V294 V295 V296 V297 V298 V299 V300 V301 V302 V303 V304 V305 V306 V307 V308 V309 V310 V311 V312 V313 V314 V315 V316 V317 V318 V319 V320 V321 V322
    V323 V324 V325 V326 V327 V328 V329 V330 V331
  intro V0 V1 V2 V3 V4 V5 V6 V7 V8 V9 V10 V11 V12 V13 V14 V15 V16 V17 V18 V19 V20 V21 V22 V23 V24 V25 V26 V27 V28 V29 V30 V31 V32 V33 V34 V35 V36 V37 V38 V39
    V40 V41 V42 V43 V44 V45 V46 V47 V48 V49 V50 V51 V52 V53 V54 V55 V56 V57 V58 V59 V60 V61 V62 V63 V64 V65 V66 V67 V68 V69 V70 V71 V72 V73 V74 V75 V76 V77 V78 V79
    V80 V81 V82 V83 V84 V85 V86 V87 V88 V89 V90 V91 V92 V93 V94 V95 V96 V97 V98 V99 V100 V101 V102 V103 V104 V105 V106 V107 V108 V109 V110 V111 V112 V113 V114 V115 V116 V117 V118 V119
    V120 V121 V122 V123 V124 V125 V126 V127 V128 V129 V130 V131 V132 V133 V134 V135 V136 V137 V138 V139 V140 V141 V142 V143 V144 V145 V146 V147 V148 V149 V150 V151 V152 V153 V154 V155 V156 V157 V158 V159
    V160 V161 V162 V163 V164 V165 V166 V167 V168 V169 V170 V171 V172 V173 V174 V175 V176 V177 V178 V179 V180 V181 V182 V183 V184 V185 V186 V187 V188 V189 V190 V191 V192 V193 V194 V195 V196 V197 V198 V199
    V200 V201 V202 V203 V204 V205 V206 V207 V208 V209 V210 V211 V212 V213 V214 V215 V216 V217 V218 V219 V220 V221 V222 V223 V224 V225 V226 V227 V228 V229 V230 V231 V232 V233 V234 V235 V236 V237 V238 V239
    V240 V241 V242 V243 V244 V245 V246 V247 V248 V249 V250 V251 V252 V253 V254 V255 V256 V257 V258 V259 V260 V261 V262 V263 V264 V265 V266 V267 V268 V269 V270 V271 V272 V273 V274 V275 V276 V277 V278 V279
    V280 V281 V282 V283 V284 V285 V286 V287 V288 V289 V290 V291 V292 V293 V294 V295 V296 V297 V298 V299 V300 V301 V302 V303 V304 V305 V306 V307 V308 V309 V310 V311 V312 V313 V314 V315 V316 V317 V318 V319
    V320 V321 V322 V323 V324 V325 V326 V327 V328 V329 V330 V331 hF
  obtain ⟨-, -, e2, e4, e5, e39, e40, -⟩ := hF
  replace e2 : V2 = .pointer (some ⟨z, 0, none⟩) := e2
  subst e2
  replace e4 : V4 = .pointer (some ⟨lb, 0, none⟩) := e4
  subst e4
  replace e5 : V5 = .pointer (some ⟨ib, 0, none⟩) := e5
  subst e5
  replace e39 : V39 = .int .i64 m1 := e39
  subst e39
  replace e40 : V40 = .int .i64 q := e40
  subst e40
  by_cases hlt : q < m1
  · clear HQ Gn1 Kn1 Q6
    obtain ⟨xs, s0, h1, h2, h3, h4, h5, h6⟩ := hlq
    obtain ⟨oa, oc, rfl⟩ := h1.form
    rw [h2] at h1 hX
    have H1 := Lib.hid h1
    have H2 := Lib.hid h2
    have H3 := Lib.hid h3
    have H4 := Lib.hid h4
    have H5 := Lib.hid h5
    have H6 := Lib.hid h6
    have HX := Lib.hid hX
    have hwr := h6.size
    have c := h5.cell
    clear h1 h2 h3 h4 h5 h6 hX
    have hrl : rb < wr.heap.size := by omega
    have hll : lb < wr.heap.size := by omega
    have hgl2 : gb < wr.heap.size := by omega
    go_upto_region 6 with fail
    refine dreg1 ?_ (z := z) (ib := ib) (v1 := .int .i64 m1) (v2 := .int .i64 q) ?_ H5.out hne hng ?_
    · exact fun x a a' w e h => hP x a a' w e h
    · exact ⟨by kernel_rfl, rfl, (by kernel_rfl), (by kernel_rfl), (by kernel_rfl), (by kernel_rfl), (by kernel_rfl), trivial⟩
    rintro a wc sb a1 a2 s1 s2 hF hg1 hk1 hg2 hk2 hl hS hT hsb
    apply Fr.elim hF
    clear hF
    clear V0 V1 V3 V6 V7 V8 V9 V10 V11 V12 V13 V14 V15 V16 V17 V18 V19 V20 V21 V22 V23 V24 V25 V26 V27 V28 V29 V30 V31 V32 V33 V34 V35 V36 V37 V38 V41 V42 V43 V44
      V45 V46 V47 V48 V49 V50 V51 V52 V53 V54 V55 V56 V57 V58 V59 V60 V61 V62 V63 V64 V65 V66 V67 V68 V69 V70 V71 V72 V73 V74 V75 V76 V77 V78 V79 V80 V81 V82 V83 V84
      V85 V86 V87 V88 V89 V90 V91 V92 V93 V94 V95 V96 V97 V98 V99 V100 V101 V102 V103 V104 V105 V106 V107 V108 V109 V110 V111 V112 V113 V114 V115 V116 V117 V118 V119 V120 V121 V122 V123 V124
      V125 V126 V127 V128 V129 V130 V131 V132 V133 V134 V135 V136 V137 V138 V139 V140 V141 V142 V143 V144 V145 V146 V147 V148 V149 V150 V151 V152 V153 V154 V155 V156 V157 V158 V159 V160 V161 V162 V163 V164
      V165 V166 V167 V168 V169 V170 V171 V172 V173 V174 V175 V176 V177 V178 V179 V180 V181 V182 V183 V184 V185 V186 V187 V188 V189 V190 V191 V192 V193 V194 V195 V196 V197 V198 V199 V200 V201 V202 V203 V204
      V205 V206 V207 V208 V209 V210 V211 V212 V213 V214 V215 V216 V217 V218 V219 V220 V221 V222 V223 V224 V225 V226 V227 V228 V229 V230 V231 V232 V233 V234 V235 V236 V237 V238 V239 V240 V241 V242 V243 V244
      V245 V246 V247 V248 V249 V250 V251 V252 V253 V254 V255 V256 V257 V258 V259 V260 V261 V262 V263 V264 V265 V266 V267 V268 V269 V270 V271 V272 V273 V274 V275 V276 V277 V278 V279 V280 V281 V282 V283 V284
      V285 V286 V287 V288 V289 V290 V291 V292 V293 V294 V295 V296 V297 V298 V299 V300 V301 V302 V303 V304 V305 V306 V307 V308 V309 V310 V311 V312 V313 V314 V315 V316 V317 V318 V319 V320 V321 V322 V323 V324
      V325 V326 V327 V328 V329 V330 V331
    intro V0 V1 V2 V3 V4 V5 V6 V7 V8 V9 V10 V11 V12 V13 V14 V15 V16 V17 V18 V19 V20 V21 V22 V23 V24 V25 V26 V27 V28 V29 V30 V31 V32 V33 V34 V35 V36 V37 V38 V39
      V40 V41 V42 V43 V44 V45 V46 V47 V48 V49 V50 V51 V52 V53 V54 V55 V56 V57 V58 V59 V60 V61 V62 V63 V64 V65 V66 V67 V68 V69 V70 V71 V72 V73 V74 V75 V76 V77 V78 V79
      V80 V81 V82 V83 V84 V85 V86 V87 V88 V89 V90 V91 V92 V93 V94 V95 V96 V97 V98 V99 V100 V101 V102 V103 V104 V105 V106 V107 V108 V109 V110 V111 V112 V113 V114 V115 V116 V117 V118 V119
      V120 V121 V122 V123 V124 V125 V126 V127 V128 V129 V130 V131 V132 V133 V134 V135 V136 V137 V138 V139 V140 V141 V142 V143 V144 V145 V146 V147 V148 V149 V150 V151 V152 V153 V154 V155 V156 V157 V158 V159
      V160 V161 V162 V163 V164 V165 V166 V167 V168 V169 V170 V171 V172 V173 V174 V175 V176 V177 V178 V179 V180 V181 V182 V183 V184 V185 V186 V187 V188 V189 V190 V191 V192 V193 V194 V195 V196 V197 V198 V199
      V200 V201 V202 V203 V204 V205 V206 V207 V208 V209 V210 V211 V212 V213 V214 V215 V216 V217 V218 V219 V220 V221 V222 V223 V224 V225 V226 V227 V228 V229 V230 V231 V232 V233 V234 V235 V236 V237 V238 V239
      V240 V241 V242 V243 V244 V245 V246 V247 V248 V249 V250 V251 V252 V253 V254 V255 V256 V257 V258 V259 V260 V261 V262 V263 V264 V265 V266 V267 V268 V269 V270 V271 V272 V273 V274 V275 V276 V277 V278 V279
      V280 V281 V282 V283 V284 V285 V286 V287 V288 V289 V290 V291 V292 V293 V294 V295 V296 V297 V298 V299 V300 V301 V302 V303 V304 V305 V306 V307 V308 V309 V310 V311 V312 V313 V314 V315 V316 V317 V318 V319
      V320 V321 V322 V323 V324 V325 V326 V327 V328 V329 V330 V331 hF
    obtain ⟨-, -, e2, e4, e5, e39, e40, e6, -⟩ := hF
    replace e2 : V2 = .pointer (some ⟨z, 0, none⟩) := e2
    subst e2
    replace e4 : V4 = .pointer (some ⟨lb, 0, none⟩) := e4
    subst e4
    replace e5 : V5 = .pointer (some ⟨ib, 0, none⟩) := e5
    subst e5
    replace e39 : V39 = .int .i64 m1 := e39
    subst e39
    replace e40 : V40 = .int .i64 q := e40
    subst e40
    replace e6 : V6 = .pointer (some ⟨sb, 0, none⟩) := e6
    subst e6
    have g1 := Lib.hid hg1
    have g2 := Lib.hid hg2
    have k1 := Lib.hid hk1
    have k2 := Lib.hid hk2
    have L0 := Lib.hid hl
    have FS0 := Lib.hid hS
    have T0 := Lib.hid hT
    have c' := hl.cell
    have hsbl : sb < wc.heap.size := by
      rcases Nat.lt_or_ge sb wc.heap.size with h | h
      · exact h
      · rw [Array.getElem?_eq_none h] at hS; cases hS
    have hzc := hT.size
    clear hg1 hg2 hk1 hk2 hl hS hT
    go_upto_region 7 with fail
    refine wp_region_held_drew (S := fun w' => w'.cell? ⟨lb, 0, none⟩ = some (.pointer (some ⟨rb, 0, none⟩))) (by kernel_rfl) c' (fun hHeld => ?_)
    refine wpAnyH_take (i := 0) (v := ?_) rfl (by kernel_rfl) (by kernel_rfl) (by kernel_rfl) (fun _ _ _ h => hP _ _ _ _ (by rfl) h) (Or.inl ⟨by rfl, ?_⟩) hHeld ?_
    rotate_left
    · (intro w hSw; (try dsimp only at hSw); go_simp; try with_reducible rfl)
    simp only [List.getElem_toArray, List.getElem_cons_zero, List.getElem_cons_succ, Act.put, List.setIfInBounds_toArray, List.set_cons_zero, List.set_cons_succ]
    refine wpAnyH_take (i := 1) (v := ?_) rfl (by kernel_rfl) (by kernel_rfl) (by kernel_rfl) (fun _ _ _ h => hP _ _ _ _ (by rfl) h) (Or.inl ⟨by rfl, ?_⟩) hHeld ?_
    rotate_left
    · (intro w hSw; (try dsimp only at hSw); go_simp; try with_reducible rfl)
    simp only [List.getElem_toArray, List.getElem_cons_zero, List.getElem_cons_succ, Act.put, List.setIfInBounds_toArray, List.set_cons_zero, List.set_cons_succ]
    refine wpAnyH_take (i := 2) (v := ?_) rfl (by kernel_rfl) (by kernel_rfl) (by kernel_rfl) (fun _ _ _ h => hP _ _ _ _ (by rfl) h) (Or.inl ⟨by rfl, ?_⟩) hHeld ?_
    rotate_left
    · (intro w hSw; (try dsimp only at hSw); go_simp; try with_reducible rfl)
    simp only [List.getElem_toArray, List.getElem_cons_zero, List.getElem_cons_succ, Act.put, List.setIfInBounds_toArray, List.set_cons_zero, List.set_cons_succ]
    refine wpAnyH_take (i := 3) (v := ?_) rfl (by kernel_rfl) (by kernel_rfl) (by kernel_rfl) (fun _ _ _ h => hP _ _ _ _ (by rfl) h) (Or.inl ⟨by rfl, ?_⟩) hHeld ?_
    rotate_left
    · (intro w hSw; (try dsimp only at hSw); go_simp; try with_reducible rfl)
    simp only [List.getElem_toArray, List.getElem_cons_zero, List.getElem_cons_succ, Act.put, List.setIfInBounds_toArray, List.set_cons_zero, List.set_cons_succ]
    refine wpAnyH_take (i := 5) (v := ?_) rfl (by kernel_rfl) (by kernel_rfl) (by kernel_rfl) (fun _ _ _ h => hP _ _ _ _ (by rfl) h) (Or.inl ⟨by rfl, ?_⟩) hHeld ?_
    rotate_left
    · (intro w hSw; (try dsimp only at hSw); go_simp; try with_reducible rfl)
    simp only [List.getElem_toArray, List.getElem_cons_zero, List.getElem_cons_succ, Act.put, List.setIfInBounds_toArray, List.set_cons_zero, List.set_cons_succ]
    refine wpAnyH_take (i := 6) (v := ?_) rfl (by kernel_rfl) (by kernel_rfl) (by kernel_rfl) (fun _ _ _ h => hP _ _ _ _ (by rfl) h) (Or.inl ⟨by rfl, ?_⟩) hHeld ?_
    rotate_left
    · (intro w hSw; (try dsimp only at hSw); go_simp; try with_reducible rfl)
    simp only [List.getElem_toArray, List.getElem_cons_zero, List.getElem_cons_succ, Act.put, List.setIfInBounds_toArray, List.set_cons_zero, List.set_cons_succ]
    refine wpAnyH_take (i := 7) (v := ?_) rfl (by kernel_rfl) (by kernel_rfl) (by kernel_rfl) (fun _ _ _ h => hP _ _ _ _ (by rfl) h) (Or.inl ⟨by rfl, ?_⟩) hHeld ?_
    rotate_left
    · (intro w hSw; (try dsimp only at hSw); go_simp; try with_reducible rfl)
    simp only [List.getElem_toArray, List.getElem_cons_zero, List.getElem_cons_succ, Act.put, List.setIfInBounds_toArray, List.set_cons_zero, List.set_cons_succ]
    refine wpAnyH_take (i := 8) (v := ?_) rfl (by kernel_rfl) (by kernel_rfl) (by kernel_rfl) (fun _ _ _ h => hP _ _ _ _ (by rfl) h) (Or.inl ⟨by rfl, ?_⟩) hHeld ?_
    rotate_left
    · (intro w hSw; (try dsimp only at hSw); go_simp; try with_reducible rfl)
    simp only [List.getElem_toArray, List.getElem_cons_zero, List.getElem_cons_succ, Act.put, List.setIfInBounds_toArray, List.set_cons_zero, List.set_cons_succ]
    replace L0 := Lib.hid (L0.out.drew)
    replace T0 := Lib.hid (T0.out.drew)
    replace FS0 : Hid (wc.drew.heap[sb]? = _) := Lib.hid FS0.out
    have hzd : wc.heap.size ≤ wc.drew.heap.size := Nat.le_refl _
    generalize wc.drew = v0 at L0 T0 FS0 hzd hHeld ⊢
    clear c c'
    refine wpAnyH_ready (rs := [4]) (by kernel_rfl) (by simp) ?_
    refine AllReadyH.cons rfl (fun K hK => ?_) AllReadyH.nil
    go_simp
    refine (ldnum _ lb rb gb _ 1 L0.out (by decide)).mono ?_
    rintro e v1 ⟨a3, s3, rfl, g3, k3, hl, hs, -⟩
    have hz1 := hs.size
    have L1 := Lib.hid hl
    have T1 := Lib.hid (T0.out.trans (hs.imp (fun x hx => hx.2)))
    have FS1 := Lib.hid ((hs.block sb (by show sb ≠ rb; omega)).trans FS0.out)
    have g3 := Lib.hid g3
    refine hK.out _ _ ((hs.cell (p := ⟨lb, 0, none⟩) hne).trans hHeld) (fun hHeld => ?_)
    clear hK K hl hs
    try simp only [List.getElem_toArray, List.getElem_cons_zero, List.getElem_cons_succ, Act.put, List.setIfInBounds_toArray, List.set_cons_zero, List.set_cons_succ]
    refine wpAnyH_take (i := 10) (v := ?_) rfl (by kernel_rfl) (by kernel_rfl) (by kernel_rfl) (fun _ _ _ h => hP _ _ _ _ (by rfl) h) (Or.inl ⟨by rfl, ?_⟩) hHeld ?_
    rotate_left
    · (intro w hSw; (try dsimp only at hSw); go_simp; try with_reducible rfl)
    simp only [List.getElem_toArray, List.getElem_cons_zero, List.getElem_cons_succ, Act.put, List.setIfInBounds_toArray, List.set_cons_zero, List.set_cons_succ]
    refine wpAnyH_ready (rs := [9]) (by kernel_rfl) (by simp) ?_
    refine AllReadyH.cons rfl (fun K hK => ?_) AllReadyH.nil
    go_simp
    refine (ldblock _ lb rb gb _ L1.out).mono ?_
    rintro e v2 ⟨_, a4, s4, rfl, ho, g4, k4, hl, hs⟩
    obtain ⟨ba, bc, rfl⟩ := ho.form
    have HBk := Lib.hid (ho.lbB plain_byte)
    have hz2 := hs.size
    have L2 := Lib.hid hl
    have T2 := Lib.hid (T1.out.trans (hs.imp (fun x hx => ⟨by have := hx.1; omega, hx.2⟩)))
    have FS2 := Lib.hid ((hs.block sb ⟨by show sb < _; omega, by show sb ≠ rb; omega⟩).trans FS1.out)
    have g4 := Lib.hid g4
    refine hK.out _ _ ((hs.cell (p := ⟨lb, 0, none⟩) ⟨by show lb < _; omega, hne⟩).trans hHeld) (fun hHeld => ?_)
    clear hK K hl hs ho
    try simp only [List.getElem_toArray, List.getElem_cons_zero, List.getElem_cons_succ, Act.put, List.setIfInBounds_toArray, List.set_cons_zero, List.set_cons_succ]
    have cS : v2.cell? ⟨sb, 3, none⟩ = some (.int .i64 0) := by rw [Lib.cell_of_heap FS2.out]; rfl
    have fS : v2.frozen? ⟨sb, 3, none⟩ = false := Lib.frozen_of_heap FS2.out 3
    refine wpAnyH_ready (rs := [11]) (by kernel_rfl) (by simp) ?_
    refine AllReadyH.cons rfl (fun K hK => ?_) AllReadyH.nil
    go_simp
    have FS3 := Lib.hid (setCell_row (k := 3) (.int .i64 a3) FS2.out)
    have L3 := Lib.hid (L2.out.step (setCell_step _ sb 3 (.int .i64 a3)) (by show lb ≠ sb; omega) (by show rb ≠ sb; omega) (by show gb ≠ sb; omega))
    have T3 := Lib.hid (T2.out.trans ((setCell_step _ sb 3 (.int .i64 a3)).imp (fun x hx => by have := hx.1; show x ≠ sb; omega)))
    refine hK.out _ _ ((World.cell?_of_block (a := ⟨lb, 0, none⟩) (Below.heap_setCell _ _ _ _ (by show lb ≠ sb; omega))).trans hHeld) (fun hHeld => ?_)
    clear hK K cS fS
    try simp only [List.getElem_toArray, List.getElem_cons_zero, List.getElem_cons_succ, Act.put, List.setIfInBounds_toArray, List.set_cons_zero, List.set_cons_succ]
    replace HBk := Lib.hid (HBk.out.keeps (w' := v2.setCell ⟨sb, 3, none⟩ (.int .i64 a3)) (fun b hb => Below.heap_setCell _ _ _ _ (by have := hb.2; show b ≠ sb; omega)))
    have hz3 : v2.heap.size ≤ (v2.setCell ⟨sb, 3, none⟩ (.int .i64 a3)).heap.size := by simp
    generalize v2.setCell ⟨sb, 3, none⟩ (.int .i64 a3) = v3 at FS3 L3 T3 hz3 hHeld HBk ⊢
    refine wpAnyH_take (i := 12) (v := ?_) rfl (by kernel_rfl) (by kernel_rfl) (by kernel_rfl) (fun _ _ _ h => hP _ _ _ _ (by rfl) h) (Or.inl ⟨by rfl, ?_⟩) hHeld ?_
    rotate_left
    · (intro w hSw; (try dsimp only at hSw); go_simp; try with_reducible rfl)
    simp only [List.getElem_toArray, List.getElem_cons_zero, List.getElem_cons_succ, Act.put, List.setIfInBounds_toArray, List.set_cons_zero, List.set_cons_succ]
    have cS : v3.cell? ⟨sb, 2, none⟩ = some (.slice none 0 0) := by rw [Lib.cell_of_heap FS3.out]; rfl
    have fS : v3.frozen? ⟨sb, 2, none⟩ = false := Lib.frozen_of_heap FS3.out 2
    refine wpAnyH_ready (rs := [13]) (by kernel_rfl) (by simp) ?_
    refine AllReadyH.cons rfl (fun K hK => ?_) AllReadyH.nil
    go_simp
    have FS4 := Lib.hid (setCell_row (k := 2) (.slice ba a4.length bc) FS3.out)
    have L4 := Lib.hid (L3.out.step (setCell_step _ sb 2 (.slice ba a4.length bc)) (by show lb ≠ sb; omega) (by show rb ≠ sb; omega) (by show gb ≠ sb; omega))
    have T4 := Lib.hid (T3.out.trans ((setCell_step _ sb 2 (.slice ba a4.length bc)).imp (fun x hx => by have := hx.1; show x ≠ sb; omega)))
    refine hK.out _ _ ((World.cell?_of_block (a := ⟨lb, 0, none⟩) (Below.heap_setCell _ _ _ _ (by show lb ≠ sb; omega))).trans hHeld) (fun hHeld => ?_)
    clear hK K cS fS
    try simp only [List.getElem_toArray, List.getElem_cons_zero, List.getElem_cons_succ, Act.put, List.setIfInBounds_toArray, List.set_cons_zero, List.set_cons_succ]
    replace HBk := Lib.hid (HBk.out.keeps (w' := v3.setCell ⟨sb, 2, none⟩ (.slice ba a4.length bc)) (fun b hb => Below.heap_setCell _ _ _ _ (by have := hb.2; show b ≠ sb; omega)))
    have hz4 : v3.heap.size ≤ (v3.setCell ⟨sb, 2, none⟩ (.slice ba a4.length bc)).heap.size := by simp
    generalize v3.setCell ⟨sb, 2, none⟩ (.slice ba a4.length bc) = v4 at FS4 L4 T4 hz4 hHeld HBk ⊢
    refine wpAnyH_done (by kernel_rfl) ?_ _
    clear hHeld
    have XI := Lib.hid ((T4.out.block ib ⟨by omega, hir⟩).trans HX.out)
    have cI : v4.cell? ⟨ib, 2, none⟩ = some (.slice oa q oc) := by rw [Lib.cell_of_heap XI.out]; rfl
    have e0 : v4.cell? ⟨sb, 0, none⟩ = some (.int .i64 a1) := by rw [Lib.cell_of_heap FS4.out]; rfl
    have e1 : v4.cell? ⟨sb, 1, none⟩ = some (.int .i64 a2) := by rw [Lib.cell_of_heap FS4.out]; rfl
    have e2 : v4.cell? ⟨sb, 2, none⟩ = some (.slice ba a4.length bc) := by rw [Lib.cell_of_heap FS4.out]; rfl
    have e3 : v4.cell? ⟨sb, 3, none⟩ = some (.int .i64 a3) := by rw [Lib.cell_of_heap FS4.out]; rfl
    have hnz : v4.heap.size < (v4.alloc (.cells #[.int .i64 a1, .int .i64 a2, .slice ba a4.length bc, .int .i64 a3] 72 (0, 0))).heap.size := by simp
    have O0 := Lib.hid (H1.out.step T4.out (fun y hy1 hy => ⟨hy1, fun e => hy (by rw [e]; show rb < w6.heap.size; omega)⟩))
    have OA := Lib.hid (O0.out.alloc (.cells #[.int .i64 a1, .int .i64 a2, .slice ba a4.length bc, .int .i64 a3] 72 (0, 0)))
    have hown := H1.out.lt
    have TA := Lib.hid (T4.out.alloc (fun b hb => by have := hb.1; omega) (.cells #[.int .i64 a1, .int .i64 a2, .slice ba a4.length bc, .int .i64 a3] 72 (0, 0)))
    have LA := Lib.hid (L4.out.alloc (.cells #[.int .i64 a1, .int .i64 a2, .slice ba a4.length bc, .int .i64 a3] 72 (0, 0)))
    have XA := Lib.hid (heap_alloc_old v4 (.cells #[.int .i64 a1, .int .i64 a2, .slice ba a4.length bc, .int .i64 a3] 72 (0, 0)) (r := ib) (by omega) |>.trans XI.out)
    have NA := Lib.hid (heap_alloc_new v4 (.cells #[.int .i64 a1, .int .i64 a2, .slice ba a4.length bc, .int .i64 a3] 72 (0, 0)))
    have HRow : Hid (kSeg.R (fun b => b < (v4.alloc (.cells #[.int .i64 a1, .int .i64 a2, .slice ba a4.length bc, .int .i64 a3] 72 (0, 0))).heap.size ∧ ¬ b < w6.heap.size ∧ (Value.slice oa q oc).ownBlock ≠ some b) (v4.alloc (.cells #[.int .i64 a1, .int .i64 a2, .slice ba a4.length bc, .int .i64 a3] 72 (0, 0))) ⟨a1, a2, a4, a3⟩ [.int .i64 a1, .int .i64 a2, .slice ba a4.length bc, .int .i64 a3]) := Lib.hid ⟨_, rfl, (HBk.out.keeps (fun b hb => by have h1 := hb.1; have h2 := hb.2; exact heap_alloc_old _ _ (by omega))).imp (fun b hb => ⟨by have := hb.1; omega, by have := hb.2; omega, fun e => by have := (hown b e).2; have := hb.2; omega⟩)⟩
    have hk : okSeg (⟨a1, a2, a4, a3⟩ : SegL) := ⟨k1.out, k2.out, k3, k4⟩
    have HOne : ∀ u ∈ ([.int .i64 a1, .int .i64 a2, .slice ba a4.length bc, .int .i64 a3] : List Value), u.oneCell' = true := by
      intro u hu
      simp only [List.mem_cons, List.not_mem_nil, or_false] at hu
      rcases hu with rfl | rfl | rfl | rfl <;> rfl
    replace HOne := Lib.hid HOne
    go_wp2_with (at_builtin; refine wpList_appendK (K := kSeg) (v := .slice oa q oc) (e := 72) (B := w6.heap.size) (E := (· < w6.heap.size)) 23 (.agg #[.int .i64 0, .int .i64 0, .slice none 0 0, .int .i64 0]) 48 Try.underlying23 info_seg rfl (by decide) rfl (.tmp 66) (.tmp 68) rfl q H2.out rfl OA.out (fun b hb => by have hb : b < w6.heap.size := hb; omega) v4.heap.size ((⟨a1, a2, a4, a3⟩ : SegL)) [.int .i64 a1, .int .i64 a2, .slice ba a4.length bc, .int .i64 a3] rfl (row_of NA.out) HOne.out HRow.out ?c3 ?c4 ?c5 ?_)
    case c3 => rw [H2.out]; omega
    case c4 => rw [H2.out]; omega
    case c5 => omega
    intro g c2 w9 ho9 hs9 hg9
    have hno := OA.out.notE
    have S9 : Step (fun x => x < v4.heap.size ∧ (x < w6.heap.size ∨ x = ib ∨ x = lb ∨ x = rb ∨ x = gb)) (v4.alloc (.cells #[.int .i64 a1, .int .i64 a2, .slice ba a4.length bc, .int .i64 a3] 72 (0, 0))) w9 := hs9.imp (fun x hx => ⟨by omega, fun e => hno x e (by show x < w6.heap.size; omega)⟩)
    have X9 := Lib.hid ((S9.block ib ⟨by omega, by omega⟩).trans XA.out)
    have cI : w9.cell? ⟨ib, 2, none⟩ = some (.slice oa q oc) := by rw [Lib.cell_of_heap X9.out]; rfl
    have fI : w9.frozen? ⟨ib, 2, none⟩ = false := Lib.frozen_of_heap X9.out 2
    have L9 := Lib.hid ((LA.out.step S9 ⟨by omega, by omega⟩ ⟨by omega, by omega⟩ ⟨by omega, by omega⟩).step (setCell_step w9 ib 2 (.slice (some ⟨g, 0, none⟩) (q + 1) c2)) (by show lb ≠ ib; omega) (by show rb ≠ ib; omega) (by show gb ≠ ib; omega))
    have Hfin : Hid (LQ 72 kSeg segP okSeg lb rb gb (fun x => x ≠ rb ∧ x ≠ lb ∧ x ≠ ib) w6 t5 (w9.setCell ⟨ib, 2, none⟩ (.slice (some ⟨g, 0, none⟩) (q + 1) c2)) (.slice (some ⟨g, 0, none⟩) (q + 1) c2) (q + 1)) := Lib.hid (LQ.next H2.out H3.out H4.out H6.out (g1.out.bind (g2.out.bind (g3.out.bind (g4.out.bind (Got.pure _ _))))) hk ((TA.out.imp (fun x hx => ⟨by have := hx.1; omega, hx.2.1⟩)).trans ((S9.imp (fun x hx => ⟨by have := hx.1; omega, Or.inl hx.1⟩)).trans ((setCell_step w9 ib 2 _).imp (fun x hx => hx.2.2.2)))) L9.out (ho9.step (setCell_step w9 ib 2 _) (fun b _ hb e => hb (by rw [e]; show ib < w6.heap.size; omega))))
    have X10 := Lib.hid (setCell_row (k := 2) (.slice (some ⟨g, 0, none⟩) (q + 1) c2) X9.out)
    clear cI ho9 hs9 hg9 S9 hno
    have cI : w9.cell? ⟨ib, 2, none⟩ = some (.slice oa q oc) := by rw [Lib.cell_of_heap X9.out]; rfl
    go_wp2_with fail
    exact HK.out _ _ hlt ⟨by omega, ⟨by kernel_rfl, rfl, (by kernel_rfl), (by kernel_rfl), (by kernel_rfl), (by kernel_rfl), (by show Value.int .i64 _ = _; go_num), trivial⟩, _, X10.out, Hfin.out⟩
  · obtain ⟨xs, s2, c1, c2, c3, c4, c5, c6⟩ := LQ.done w5.heap.size hz6 hlq
    obtain rfl : m1 = q := by omega
    clear HK hlq
    have HE := Lib.hid (HQ.out (m := m1) (xs := xs) (s1 := t5) (s2 := s2) (v := v))
    replace c3 := Lib.hid c3
    replace c4 := Lib.hid c4
    replace hX := Lib.hid hX
    replace c5 := Lib.hid c5
    replace c6 := Lib.hid c6
    replace c2 := Lib.hid c2
    replace hmm1 := Lib.hid hmm1
    clear HQ
    go_wp2_with fail
    exact HE.out _ _ ⟨by kernel_rfl, rfl, (by kernel_rfl), (by kernel_rfl), (by kernel_rfl), trivial⟩ Gn1.out hmm1.out c1 c3.out c2.out c4.out hX.out (Q6.out.trans (c5.out.imp (S' := fun x => x < w5.heap.size ∧ x ≠ rb ∧ x ≠ lb ∧ x ≠ ib) (fun x hx => ⟨Nat.lt_of_lt_of_le hx.1 Q6.out.size, hx.2⟩))) c6.out

end Go.Proofs.Ytbliedldlimpgaa

namespace Go.Proofs.Ytbliedldlimpgaa
set_option linter.unusedVariables false
set_option linter.unusedSimpArgs false
open Go.RowKit

set_option maxHeartbeats 64000000 in
set_option maxRecDepth 100000 in
theorem dloop2 {Q : Exit → Act → World → Prop} (hP : ∀ x a a' w, a'.defers = a.defers → Q (.panic x) a w → Q (.panic x) a' w) {a : Act} {w5 : World} {z lb rb gb ib : Nat} {s : Option (List UInt8)} {name : List UInt8} {flags sh tl : Int} {y0 y2 y3 y4 y5 y6 y7 y8 y9 y10 : Value} (hF : Fr [(2, .pointer (some ⟨z, 0, none⟩)), (4, .pointer (some ⟨lb, 0, none⟩)), (5, .pointer (some ⟨ib, 0, none⟩))] a) (hL : LD lb rb gb w5 s) (hX : w5.heap[ib]? = some (imgBlock name flags ⟨y0, .slice none 0 0, y2, y3, y4, y5, y6, y7, y8, y9, y10⟩ sh tl)) (hir : ib ≠ rb) (hil : ib ≠ lb) (hig : ib ≠ gb) (hne : lb ≠ rb) (hng : lb ≠ gb) (hib5 : ib < w5.heap.size)
    (hQ : ∀ (a' : Act) (w' : World) (m : Nat) (xs : List NeedL) (s1 s2 : Option (List UInt8)) (v : Value), Fr [(2, .pointer (some ⟨z, 0, none⟩)), (4, .pointer (some ⟨lb, 0, none⟩)), (5, .pointer (some ⟨ib, 0, none⟩))] a' → Got (numP 1) s m s1 → okLen 1 m → xs.length = m → Got (manyP needP m) s1 xs s2 → (∀ x ∈ xs, okNeed x) → LD lb rb gb w' s2 → w'.heap[ib]? = some (imgBlock name flags ⟨y0, v, y2, y3, y4, y5, y6, y7, y8, y9, y10⟩ sh tl) → Step (fun x => x < w5.heap.size ∧ x ≠ rb ∧ x ≠ lb ∧ x ≠ ib) w5 w' → LB kNeed (fun b => w5.heap.size ≤ b ∧ b < w'.heap.size) w' v xs → Q .normal a' w') : (dCode Try.f15 5).wp Try.prog Q a w5 := by
  have L5 := Lib.hid hL
  have X5 := Lib.hid hX
  have HQ := Lib.hid hQ
  have hz5 : w5.heap.size ≤ w5.heap.size := Nat.le_refl _
  have hlb5 := hL.lt
  have hrb5 := hL.rblt
  have hgb5 := hL.gblt
  clear hL hX hQ
  apply Fr.elim hF
  clear hF
  intro V0 V1 V2 V3 V4 V5 V6 V7 V8 V9 V10 V11 V12 V13 V14 V15 V16 V17 V18 V19 V20 V21 V22 V23 V24 V25 V26 V27 V28 V29 V30 V31 V32 V33 V34 V35 V36 V37 V38 V39
    V40 V41 V42 V43 V44 V45 V46 V47 V48 V49 V50 V51 V52 V53 V54 V55 V56 V57 V58 V59 V60 V61 V62 V63 V64 V65 V66 V67 V68 V69 V70 V71 V72 V73 V74 V75 V76 V77 V78 V79
    V80 V81 V82 V83 V84 V85 V86 V87 V88 V89 V90 V91 V92 V93 V94 V95 V96 V97 V98 V99 V100 V101 V102 V103 V104 V105 V106 V107 V108 V109 V110 V111 V112 V113 V114 V115 V116 V117 V118 V119
    V120 V121 V122 V123 V124 V125 V126 V127 V128 V129 V130 V131 V132 V133 V134 V135 V136 V137 V138 V139 V140 V141 V142 V143 V144 V145 V146 V147 V148 V149 V150 V151 V152 V153 V154 V155 V156 V157 V158 V159
    V160 V161 V162 V163 V164 V165 V166 V167 V168 V169 V170 V171 V172 V173 V174 V175 V176 V177 V178 V179 V180 V181 V182 V183 V184 V185 V186 V187 V188 V189 V190 V191 V192 V193 V194 V195 V196 V197 V198 V199
    V200 V201 V202 V203 V204 V205 V206 V207 V208 V209 V210 V211 V212 V213 V214 V215 V216 V217 V218 V219 V220 V221 V222 V223 V224 V225 V226 V227 V228 V229 V230 V231 V232 V233 V234 V235 V236 V237 V238 V239
    V240 V241 V242 V243 V244 V245 V246 V247 V248 V249 V250 V251 V252 V253 V254 V255 V256 V257 V258 V259 V260 V261 V262 V263 V264 V265 V266 V267 V268 V269 V270 V271 V272 V273 V274 V275 V276 V277 V278 V279
    V280 V281 V282 V283 V284 V285 V286 V287 V288 V289 V290 V291 V292 V293 V294 V295 V296 V297 V298 V299 V300 V301 V302 V303 V304 V305 V306 V307 V308 V309 V310 V311 V312 V313 V314 V315 V316 V317 V318 V319
    V320 V321 V322 V323 V324 V325 V326 V327 V328 V329 V330 V331 hF
  obtain ⟨-, -, e2, e4, e5, -⟩ := hF
  replace e2 : V2 = .pointer (some ⟨z, 0, none⟩) := e2
  subst e2
  replace e4 : V4 = .pointer (some ⟨lb, 0, none⟩) := e4
  subst e4
  replace e5 : V5 = .pointer (some ⟨ib, 0, none⟩) := e5
  subst e5
  conv in dCode Try.f15 5 => whnf
  have c5 := L5.out.cell
  have HN := Lib.hid (ldnum w5 lb rb gb s 1 L5.out (by decide))
  go_wp2_with fail
  refine HN.out.mono ?_
  rintro e w6 ⟨n1, t5, rfl, hg, hk, hl, hs, -⟩
  have Gn1 := Lib.hid hg
  have Kn1 := Lib.hid hk
  have L6 := Lib.hid hl
  have X6 := Lib.hid ((hs.block ib hir).trans X5.out)
  have hz6 : w5.heap.size ≤ w6.heap.size := Nat.le_trans hz5 hs.size
  have Q6 := Lib.hid (hs.imp (S' := fun x => x < w5.heap.size ∧ x ≠ rb ∧ x ≠ lb ∧ x ≠ ib) (fun x hx => hx.2.1))
  clear hg hk hl hs HN c5 X5 L5
  obtain ⟨m1, rfl, hmm1⟩ := okN_idx (by decide) Kn1.out
  have hm1 : m1 < 256 := hmm1
  go_wp2_with fail
  refine wp_loop_n (k := 77) (m := m1) (fun q a wr => q ≤ m1 ∧ Fr [(2, .pointer (some ⟨z, 0, none⟩)), (4, .pointer (some ⟨lb, 0, none⟩)), (5, .pointer (some ⟨ib, 0, none⟩)), (76, .int .i64 m1), (77, .int .i64 q)] a ∧ ∃ v, wr.heap[ib]? = some (imgBlock name flags ⟨y0, v, y2, y3, y4, y5, y6, y7, y8, y9, y10⟩ sh tl) ∧ LQ 81 kNeed needP okNeed lb rb gb (fun x => x ≠ rb ∧ x ≠ lb ∧ x ≠ ib) w6 t5 wr v q) ?_ ?_ ?_
  · exact fun q a w h => ⟨h.1, FrL.get h.2.1.2.2 (77, .int .i64 q) (by simp)⟩
  · exact ⟨Nat.zero_le _, ⟨by kernel_rfl, rfl, (by kernel_rfl), (by kernel_rfl), (by kernel_rfl), (by kernel_rfl), (by kernel_rfl), trivial⟩, _, X6.out, .start L6.out⟩
  clear X6 L6
  intro q a wr K hq hI HK
  obtain ⟨-, hF, v, hX, hlq⟩ := hI
  replace HK := Lib.hid HK
  apply Fr.elim hF
  clear hF
  clear V0 V1 V3 V6 V7 V8 V9 V10 V11 V12 V13 V14 V15 V16 V17 V18 V19 V20 V21 V22 V23 V24 V25 V26 V27 V28 V29 V30 V31 V32 V33 V34 V35 V36 V37 V38 V39 V40 V41 V42
    V43 V44 V45 V46 V47 V48 V49 V50 V51 V52 V53 V54 V55 V56 V57 V58 V59 V60 V61 V62 V63 V64 V65 V66 V67 V68 V69 V70 V71 V72 V73 V74 V75 V76 V77 V78 V79 V80 V81 V82
    V83 V84 V85 V86 V87 V88 V89 V90 V91 V92 V93 V94 V95 V96 V97 V98 V99 V100 V101 V102 V103 V104 V105 V106 V107 V108 V109 V110 V111 V112 V113 V114 V115 V116 V117 V118 V119 V120 V121 V122
    V123 V124 V125 V126 V127 V128 V129 V130 V131 V132 V133 V134 V135 V136 V137 V138 V139 V140 V141 V142 V143 V144 V145 V146 V147 V148 V149 V150 V151 V152 V153 V154 V155 V156 V157 V158 V159 V160 V161 V162
    V163 V164 V165 V166 V167 V168 V169 V170 V171 V172 V173 V174 V175 V176 V177 V178 V179 V180 V181 V182 V183 V184 V185 V186 V187 V188 V189 V190 V191 V192 V193 V194 V195 V196 V197 V198 V199 V200 V201 V202
    V203 V204 V205 V206 V207 V208 V209 V210 V211 V212 V213 V214 V215 V216 V217 V218 V219 V220 V221 V222 V223 V224 V225 V226 V227 V228 V229 V230 V231 V232 V233 V234 V235 V236 V237 V238 V239 V240 V241 V242
    V243 V244 V245 V246 V247 V248 V249 V250 V251 V252 V253 V254 V255 V256 V257 V258 V259 V260 V261 V262 V263 V264 V265 V266 V267 V268 V269 V270 V271 V272 V273 V274 V275 V276 V277 V278 V279 V280 V281 V282
    V283 V284 V285 V286 V287 V288 V289 V290 V291 V292 V293 V294 V295 V296 V297 V298 V299 V300 V301 V302 V303 V304 V305 V306 V307 V308 V309 V310 V311 V312 V313 V314 V315 V316 V317 V318 V319 V320 V321 V322
    V323 V324 V325 V326 V327 V328 V329 V330 V331
  intro V0 V1 V2 V3 V4 V5 V6 V7 V8 V9 V10 V11 V12 V13 V14 V15 V16 V17 V18 V19 V20 V21 V22 V23 V24 V25 V26 V27 V28 V29 V30 V31 V32 V33 V34 V35 V36 V37 V38 V39
    V40 V41 V42 V43 V44 V45 V46 V47 V48 V49 V50 V51 V52 V53 V54 V55 V56 V57 V58 V59 V60 V61 V62 V63 V64 V65 V66 V67 V68 V69 V70 V71 V72 V73 V74 V75 V76 V77 V78 V79
    V80 V81 V82 V83 V84 V85 V86 V87 V88 V89 V90 V91 V92 V93 V94 V95 V96 V97 V98 V99 V100 V101 V102 V103 V104 V105 V106 V107 V108 V109 V110 V111 V112 V113 V114 V115 V116 V117 V118 V119
    V120 V121 V122 V123 V124 V125 V126 V127 V128 V129 V130 V131 V132 V133 V134 V135 V136 V137 V138 V139 V140 V141 V142 V143 V144 V145 V146 V147 V148 V149 V150 V151 V152 V153 V154 V155 V156 V157 V158 V159
    V160 V161 V162 V163 V164 V165 V166 V167 V168 V169 V170 V171 V172 V173 V174 V175 V176 V177 V178 V179 V180 V181 V182 V183 V184 V185 V186 V187 V188 V189 V190 V191 V192 V193 V194 V195 V196 V197 V198 V199
    V200 V201 V202 V203 V204 V205 V206 V207 V208 V209 V210 V211 V212 V213 V214 V215 V216 V217 V218 V219 V220 V221 V222 V223 V224 V225 V226 V227 V228 V229 V230 V231 V232 V233 V234 V235 V236 V237 V238 V239
    V240 V241 V242 V243 V244 V245 V246 V247 V248 V249 V250 V251 V252 V253 V254 V255 V256 V257 V258 V259 V260 V261 V262 V263 V264 V265 V266 V267 V268 V269 V270 V271 V272 V273 V274 V275 V276 V277 V278 V279
    V280 V281 V282 V283 V284 V285 V286 V287 V288 V289 V290 V291 V292 V293 V294 V295 V296 V297 V298 V299 V300 V301 V302 V303 V304 V305 V306 V307 V308 V309 V310 V311 V312 V313 V314 V315 V316 V317 V318 V319
    V320 V321 V322 V323 V324 V325 V326 V327 V328 V329 V330 V331 hF
  obtain ⟨-, -, e2, e4, e5, e76, e77, -⟩ := hF
  replace e2 : V2 = .pointer (some ⟨z, 0, none⟩) := e2
  subst e2
  replace e4 : V4 = .pointer (some ⟨lb, 0, none⟩) := e4
  subst e4
  replace e5 : V5 = .pointer (some ⟨ib, 0, none⟩) := e5
  subst e5
  replace e76 : V76 = .int .i64 m1 := e76
  subst e76
  replace e77 : V77 = .int .i64 q := e77
  subst e77
  by_cases hlt : q < m1
  · clear HQ Gn1 Kn1 Q6
    obtain ⟨xs, s0, h1, h2, h3, h4, h5, h6⟩ := hlq
    obtain ⟨oa, oc, rfl⟩ := h1.form
    rw [h2] at h1 hX
    have H1 := Lib.hid h1
    have H2 := Lib.hid h2
    have H3 := Lib.hid h3
    have H4 := Lib.hid h4
    have H5 := Lib.hid h5
    have H6 := Lib.hid h6
    have HX := Lib.hid hX
    have hwr := h6.size
    have c := h5.cell
    clear h1 h2 h3 h4 h5 h6 hX
    have hrl : rb < wr.heap.size := by omega
    have hll : lb < wr.heap.size := by omega
    have hgl2 : gb < wr.heap.size := by omega
    have L0 := H5
    have T0 := Lib.hid (Step.refl (fun x => x < wr.heap.size ∧ x ≠ rb) wr)
    have HN := Lib.hid (ldtext wr lb rb gb _ L0.out)
    go_wp2_with fail
    refine HN.out.mono ?_
    clear HN
    rintro e v1 ⟨a1, s1, rfl, g1, k1, hl, hs, -⟩
    have hzv1 := hs.size
    have L1 := Lib.hid hl
    replace g1 := Lib.hid g1
    replace k1 := Lib.hid k1
    have T1 := Lib.hid (T0.out.trans (hs.imp (fun x hx => hx.2)))
    clear hl hs L0 T0
    go_upto_region 13 with fail
    have FS2 := Lib.hid (heap_alloc_new v1 (.cells #[.string ⟨a1.toArray⟩, .slice none 0 0] 81 (0, 0)))
    have L2 := Lib.hid (L1.out.alloc (.cells #[.string ⟨a1.toArray⟩, .slice none 0 0] 81 (0, 0)))
    have T2 := Lib.hid (T1.out.alloc (fun b hb => by have := hb.1; omega) (.cells #[.string ⟨a1.toArray⟩, .slice none 0 0] 81 (0, 0)))
    have hzn : v1.heap.size < (v1.alloc (.cells #[.string ⟨a1.toArray⟩, .slice none 0 0] 81 (0, 0))).heap.size := by simp
    clear L1 T1
    generalize v1.alloc (.cells #[.string ⟨a1.toArray⟩, .slice none 0 0] 81 (0, 0)) = v2 at FS2 L2 T2 hzn ⊢
    have hsb : wr.heap.size ≤ v1.heap.size := by omega
    generalize v1.heap.size = sb at FS2 hzn hzv1 hsb ⊢
    have c2 := L2.out.cell
    have HN := Lib.hid (ldnum v2 lb rb gb _ 1 L2.out (by decide))
    go_wp2_with fail
    refine HN.out.mono ?_
    clear HN
    rintro e v3 ⟨n, s2, rfl, g2, k2, hl, hs, -⟩
    have hzv3 := hs.size
    have L3 := Lib.hid hl
    replace g2 := Lib.hid g2
    replace k2 := Lib.hid k2
    have T3 := Lib.hid (T2.out.trans (hs.imp (fun x hx => hx.2)))
    have FS3 := Lib.hid ((hs.block sb (by show sb ≠ rb; omega)).trans FS2.out)
    clear hl hs L2 T2
    clear c2
    obtain ⟨m, rfl, hmm⟩ := okN_idx (by decide) k2.out
    have hm : m < 256 := hmm
    have HN := Lib.hid (ldtexts v3 lb rb gb _ m L3.out (by omega))
    go_wp2_with fail
    refine HN.out.mono ?_
    clear HN
    rintro e v4 ⟨ya2, rfl, hq⟩
    obtain ⟨a2, s3, Za2, k3, g3, hl, hs, HBk⟩ := LQ.done v3.heap.size (Nat.le_refl _) hq
    clear hq
    replace Za2 := Lib.hid Za2
    replace HBk := Lib.hid HBk
    have hzv4 := hs.size
    have L4 := Lib.hid hl
    replace g3 := Lib.hid g3
    replace k3 := Lib.hid k3
    have T4 := Lib.hid (T3.out.trans (hs.imp (fun x hx => ⟨by have := hx.1; omega, hx.2⟩)))
    have FS4 := Lib.hid ((hs.block sb ⟨by show sb < _; omega, by show sb ≠ rb; omega⟩).trans FS3.out)
    clear hl hs L3 T3
    obtain ⟨ya, yc, rfl⟩ := HBk.out.form
    have cS : v4.cell? ⟨sb, 1, none⟩ = some (.slice none 0 0) := by rw [Lib.cell_of_heap FS4.out]; rfl
    have fS : v4.frozen? ⟨sb, 1, none⟩ = false := Lib.frozen_of_heap FS4.out 1
    go_upto_region 14 with fail
    have FS5 := Lib.hid (setCell_row (k := 1) (.slice ya a2.length yc) FS4.out)
    have L5 := Lib.hid (L4.out.step (setCell_step _ sb 1 (.slice ya a2.length yc)) (by show lb ≠ sb; omega) (by show rb ≠ sb; omega) (by show gb ≠ sb; omega))
    have T5 := Lib.hid (T4.out.trans ((setCell_step _ sb 1 (.slice ya a2.length yc)).imp (fun x hx => by have := hx.1; show x ≠ sb; omega)))
    clear cS fS L4 T4 FS4
    replace HBk := Lib.hid (HBk.out.keeps (w' := v4.setCell ⟨sb, 1, none⟩ (.slice ya a2.length yc)) (fun b hb => Below.heap_setCell _ _ _ _ (by have := hb.1; show b ≠ sb; omega)))
    have hz5 : v4.heap.size ≤ (v4.setCell ⟨sb, 1, none⟩ (.slice ya a2.length yc)).heap.size := by simp
    generalize v4.setCell ⟨sb, 1, none⟩ (.slice ya a2.length yc) = v5 at *
    have XI := Lib.hid ((T5.out.block ib ⟨by omega, hir⟩).trans HX.out)
    have cI : v5.cell? ⟨ib, 3, none⟩ = some (.slice oa q oc) := by rw [Lib.cell_of_heap XI.out]; rfl
    have e0 : v5.cell? ⟨sb, 0, none⟩ = some (.string ⟨a1.toArray⟩) := by rw [Lib.cell_of_heap FS5.out]; rfl
    have e1 : v5.cell? ⟨sb, 1, none⟩ = some (.slice ya a2.length yc) := by rw [Lib.cell_of_heap FS5.out]; rfl
    have hnz : v5.heap.size < (v5.alloc (.cells #[.string ⟨a1.toArray⟩, .slice ya a2.length yc] 81 (0, 0))).heap.size := by simp
    have O0 := Lib.hid (H1.out.step T5.out (fun y hy1 hy => ⟨hy1, fun e => hy (by rw [e]; show rb < w6.heap.size; omega)⟩))
    have OA := Lib.hid (O0.out.alloc (.cells #[.string ⟨a1.toArray⟩, .slice ya a2.length yc] 81 (0, 0)))
    have hown := H1.out.lt
    have TA := Lib.hid (T5.out.alloc (fun b hb => by have := hb.1; omega) (.cells #[.string ⟨a1.toArray⟩, .slice ya a2.length yc] 81 (0, 0)))
    have LA := Lib.hid (L5.out.alloc (.cells #[.string ⟨a1.toArray⟩, .slice ya a2.length yc] 81 (0, 0)))
    have XA := Lib.hid (heap_alloc_old v5 (.cells #[.string ⟨a1.toArray⟩, .slice ya a2.length yc] 81 (0, 0)) (r := ib) (by omega) |>.trans XI.out)
    have NA := Lib.hid (heap_alloc_new v5 (.cells #[.string ⟨a1.toArray⟩, .slice ya a2.length yc] 81 (0, 0)))
    have HRow : Hid (kNeed.R (fun b => b < (v5.alloc (.cells #[.string ⟨a1.toArray⟩, .slice ya a2.length yc] 81 (0, 0))).heap.size ∧ ¬ b < w6.heap.size ∧ (Value.slice oa q oc).ownBlock ≠ some b) (v5.alloc (.cells #[.string ⟨a1.toArray⟩, .slice ya a2.length yc] 81 (0, 0))) ⟨a1, a2⟩ [.string ⟨a1.toArray⟩, .slice ya a2.length yc]) := Lib.hid ⟨_, rfl, (HBk.out.keeps (fun b hb => by have h1 := hb.1; have h2 := hb.2; exact heap_alloc_old _ _ (by omega))).imp (fun b hb => ⟨by have := hb.2; omega, by have := hb.1; omega, fun e => by have := (hown b e).2; have := hb.1; omega⟩), Nat.le_trans k1.out (by decide)⟩
    have hk : okNeed (⟨a1, a2⟩ : NeedL) := ⟨k1.out, by rw [okLen, Za2.out]; exact hmm, k3.out⟩
    have HOne : ∀ u ∈ ([.string ⟨a1.toArray⟩, .slice ya a2.length yc] : List Value), u.oneCell' = true := by
      intro u hu
      simp only [List.mem_cons, List.not_mem_nil, or_false] at hu
      rcases hu with rfl | rfl <;> rfl
    replace HOne := Lib.hid HOne
    go_wp2_with (at_builtin; refine wpList_appendK (K := kNeed) (v := .slice oa q oc) (e := 81) (B := w6.heap.size) (E := (· < w6.heap.size)) 24 (.agg #[.string ⟨#[]⟩, .slice none 0 0]) 40 Try.underlying24 info_need rfl (by decide) rfl (.tmp 94) (.tmp 96) rfl q H2.out rfl OA.out (fun b hb => by have hb : b < w6.heap.size := hb; omega) v5.heap.size ((⟨a1, a2⟩ : NeedL)) [.string ⟨a1.toArray⟩, .slice ya a2.length yc] rfl (row_of NA.out) HOne.out HRow.out ?c3 ?c4 ?c5 ?_)
    case c3 => rw [H2.out]; omega
    case c4 => rw [H2.out]; omega
    case c5 => omega
    intro g c2 w9 ho9 hs9 hg9
    have hno := OA.out.notE
    have S9 : Step (fun x => x < v5.heap.size ∧ (x < w6.heap.size ∨ x = ib ∨ x = lb ∨ x = rb ∨ x = gb)) (v5.alloc (.cells #[.string ⟨a1.toArray⟩, .slice ya a2.length yc] 81 (0, 0))) w9 := hs9.imp (fun x hx => ⟨by omega, fun e => hno x e (by show x < w6.heap.size; omega)⟩)
    have X9 := Lib.hid ((S9.block ib ⟨by omega, by omega⟩).trans XA.out)
    have cI : w9.cell? ⟨ib, 3, none⟩ = some (.slice oa q oc) := by rw [Lib.cell_of_heap X9.out]; rfl
    have fI : w9.frozen? ⟨ib, 3, none⟩ = false := Lib.frozen_of_heap X9.out 3
    have L9 := Lib.hid ((LA.out.step S9 ⟨by omega, by omega⟩ ⟨by omega, by omega⟩ ⟨by omega, by omega⟩).step (setCell_step w9 ib 3 (.slice (some ⟨g, 0, none⟩) (q + 1) c2)) (by show lb ≠ ib; omega) (by show rb ≠ ib; omega) (by show gb ≠ ib; omega))
    have Hfin : Hid (LQ 81 kNeed needP okNeed lb rb gb (fun x => x ≠ rb ∧ x ≠ lb ∧ x ≠ ib) w6 t5 (w9.setCell ⟨ib, 3, none⟩ (.slice (some ⟨g, 0, none⟩) (q + 1) c2)) (.slice (some ⟨g, 0, none⟩) (q + 1) c2) (q + 1)) := Lib.hid (LQ.next H2.out H3.out H4.out H6.out (g1.out.bind (g2.out.bind (g3.out.bind (Got.pure _ _)))) hk ((TA.out.imp (fun x hx => ⟨by have := hx.1; omega, hx.2.1⟩)).trans ((S9.imp (fun x hx => ⟨by have := hx.1; omega, Or.inl hx.1⟩)).trans ((setCell_step w9 ib 3 _).imp (fun x hx => hx.2.2.2)))) L9.out (ho9.step (setCell_step w9 ib 3 _) (fun b _ hb e => hb (by rw [e]; show ib < w6.heap.size; omega))))
    have X10 := Lib.hid (setCell_row (k := 3) (.slice (some ⟨g, 0, none⟩) (q + 1) c2) X9.out)
    clear cI ho9 hs9 hg9 S9 hno
    have cI : w9.cell? ⟨ib, 3, none⟩ = some (.slice oa q oc) := by rw [Lib.cell_of_heap X9.out]; rfl
    go_wp2_with fail
    exact HK.out _ _ hlt ⟨by omega, ⟨by kernel_rfl, rfl, (by kernel_rfl), (by kernel_rfl), (by kernel_rfl), (by kernel_rfl), (by show Value.int .i64 _ = _; go_num), trivial⟩, _, X10.out, Hfin.out⟩
  · obtain ⟨xs, s2, c1, c2, c3, c4, c5, c6⟩ := LQ.done w5.heap.size hz6 hlq
    obtain rfl : m1 = q := by omega
    clear HK hlq
    have HE := Lib.hid (HQ.out (m := m1) (xs := xs) (s1 := t5) (s2 := s2) (v := v))
    replace c3 := Lib.hid c3
    replace c4 := Lib.hid c4
    replace hX := Lib.hid hX
    replace c5 := Lib.hid c5
    replace c6 := Lib.hid c6
    replace c2 := Lib.hid c2
    replace hmm1 := Lib.hid hmm1
    clear HQ
    go_wp2_with fail
    exact HE.out _ _ ⟨by kernel_rfl, rfl, (by kernel_rfl), (by kernel_rfl), (by kernel_rfl), trivial⟩ Gn1.out hmm1.out c1 c3.out c2.out c4.out hX.out (Q6.out.trans (c5.out.imp (S' := fun x => x < w5.heap.size ∧ x ≠ rb ∧ x ≠ lb ∧ x ≠ ib) (fun x hx => ⟨Nat.lt_of_lt_of_le hx.1 Q6.out.size, hx.2⟩))) c6.out

end Go.Proofs.Ytbliedldlimpgaa
