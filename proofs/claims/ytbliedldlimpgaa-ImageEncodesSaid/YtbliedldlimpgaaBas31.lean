/- What a call of image.Decode comes to, as the laws want it. -/
import Derived.Test.YtbliedldlimpgaaBas29
import Derived.Test.YtbliedldlimpgaaBas30
import Derived.Test.YtbliedldlimpgaaBas5
import Derived.Test.YtbliedldlimpgaaBas28

namespace Go.Proofs.Ytbliedldlimpgaa
set_option linter.unusedVariables false
set_option linter.unusedSimpArgs false
open Go.RowKit

def relV (s b c r : Value) : ImgV := ⟨s, .slice none 0 0, .slice none 0 0, .slice none 0 0, b, c, r, .slice none 0 0, .slice none 0 0, .slice none 0 0, .slice none 0 0⟩
def relImg : ImgL := { leastL with relocs := [⟨0, 1, -1, 0⟩] }
def noneImg : ImgL := ⟨[], 0, [], [], [], [], [], [], 0, [], [], [], [], [], 0⟩
def noneV : ImgV := ⟨.slice none 0 0, .slice none 0 0, .slice none 0 0, .slice none 0 0, .slice none 0 0, .slice none 0 0, .slice none 0 0, .slice none 0 0, .slice none 0 0, .slice none 0 0, .slice none 0 0⟩
theorem imgM_none (S : Nat → Prop) (w : World) : ImgM S w noneV noneImg where
  name := Nat.zero_le _
  flags := ⟨by decide, by decide⟩
  segs := LB.nil _ _ _
  segsR := fun s hs => (by cases hs)
  needed := LB.nil _ _ _
  runPath := LB.nil _ _ _
  syms := LB.nil _ _ _
  buckets := LB.nil _ _ _
  bucketsL := fun s hs => (by cases hs)
  words := LB.nil _ _ _
  wordsR := fun s hs => (by cases hs)
  shift := ⟨by decide, by decide⟩
  relocs := LB.nil _ _ _
  relocsR := fun s hs => (by cases hs)
  slots := LB.nil _ _ _
  slotsR := fun s hs => (by cases hs)
  init := LB.nil _ _ _
  initR := fun s hs => (by cases hs)
  fini := LB.nil _ _ _
  finiR := fun s hs => (by cases hs)
  tls := LB.nil _ _ _
  tlsSize := ⟨by decide, by decide⟩
theorem rel_lb {w : World} {g : Nat} (h1 : g < w.heap.size) (h : w.heap[g]? = some (.cells #[.int .i64 0, .int .i64 1, .int .i64 (-1), .int .i64 0] 57 (0, 0))) :
    LB kRel (· < w.heap.size) w (.slice (some ⟨g, 0, none⟩) 1 1) [⟨0, 1, -1, 0⟩] := by
  refine ⟨some ⟨g, 0, none⟩, g, 0, 1, rfl, by decide, fun _ => rfl, ⟨Nat.le_refl _, fun h => by cases h⟩, fun _ => h1, fun i x hx => ?_⟩
  match i, hx with
  | 0, hx =>
    simp at hx; subst hx
    refine ⟨[.int .i64 0, .int .i64 1, .int .i64 (-1), .int .i64 0], rfl, fun j u hu => ?_⟩
    rw [Lib.cell_of_heap h]
    simpa using hu
  | i + 1, hx => simp at hx
theorem rel_img {S : Nat → Prop} {w : World} {s b c r : Value} (h : ImgM S w (leastV s b c) leastL) (hr : LB kRel S w r [⟨0, 1, -1, 0⟩]) : ImgM S w (relV s b c r) relImg :=
  ⟨h.name, h.flags, h.segs, h.segsR, h.needed, h.runPath, h.syms, h.buckets, h.bucketsL, h.words, h.wordsR, h.shift, hr, fun x hx => by
    have hx : x ∈ [(⟨0, 1, -1, 0⟩ : RelL)] := hx
    simp at hx; subst hx; exact ⟨⟨by decide, by decide⟩, ⟨by decide, by decide⟩, ⟨by decide, by decide⟩⟩, h.slots, h.slotsR, h.init, h.initR, h.fini, h.finiR, h.tls, h.tlsSize⟩

theorem enc_least (w : World) (sa ba ca : Option Addr) (sc bc cc : Nat) (h : ImgM (· < w.heap.size) w (leastV (.slice sa 1 sc) (.slice ba 1 bc) (.slice ca 1 cc)) leastL) :
    Calls Try.prog 12 #[.agg #[.string ⟨#[]⟩, .int .i64 0, .slice sa 1 sc, .slice none 0 0, .slice none 0 0, .slice none 0 0, .slice ba 1 bc, .slice ca 1 cc, .int .i64 6, .slice none 0 0, .slice none 0 0, .slice none 0 0, .slice none 0 0, .slice none 0 0, .int .i64 0]] w fun e w' =>
      ∃ ra n rc, e = .returned (.tuple #[.slice ra n rc, .int .i64 0]) ∧ Below w.heap.size w w' ∧ LB kByte (· < w'.heap.size) w' (.slice ra n rc) (formL leastL) := by
  refine (iencode_any w _ _ h).mono ?_
  rintro e w' ⟨r, rfl, hb, -, hr⟩
  have HR := hr may_least
  obtain ⟨ra, rc, rfl⟩ := HR.form
  exact ⟨ra, _, rc, by rw [may_least], hb, HR.lb.imp (fun b hb => hb.1)⟩
theorem may_of (w : World) (v : ImgV) (im : ImgL) (n : Int) (h : ImgM (· < w.heap.size) w v im) (hn : mayL im = n) :
    Calls Try.prog 10 #[.agg (imgCells v im)] w fun e w' => e = .returned (.int .i64 n) ∧ Below w.heap.size w w' := by
  subst hn; exact imay_any w v im h

set_option maxHeartbeats 16000000 in
set_option maxRecDepth 100000 in
theorem awake_of (HDec : ∀ (w : World) (bv : Value), LB kByte (· < w.heap.size) w bv (formL leastL) → 0 < w.heap.size → Calls Try.prog 15 #[bv] w fun e w' => ∃ v, e = .returned (.tuple #[.agg (imgCells v leastL), .int .i64 0]) ∧ Below w.heap.size w w' ∧ ImgM (fun b => w.heap.size ≤ b ∧ b < w'.heap.size) w' v leastL)
    (w : World) : Calls Try.prog 9 #[] w fun e w' => e = .returned (.bool true) ∧ Below w.heap.size w w' := by
  have HD := Lib.hid HDec
  clear HDec
  go_enter Try.func9, Try.ntmps9
  go_wp2_with fail
  refine (ileast_any _).mono ?_
  rintro e w1 ⟨s, b, c, rfl, hb1, hm1⟩
  obtain ⟨sa, sc, hs⟩ := hm1.segs.form
  obtain ⟨ba, bc, hb⟩ := hm1.buckets.form
  obtain ⟨ca, cc, hc⟩ := hm1.words.form
  replace hs : s = .slice sa 1 sc := hs
  replace hb : b = .slice ba 1 bc := hb
  replace hc : c = .slice ca 1 cc := hc
  subst hs hb hc
  have hz1 := hb1.size
  have B1 := Lib.hid (hb1.alloc (by omega) (.cells #[.string ⟨#[]⟩, .int .i64 0, .slice sa 1 sc, .slice none 0 0, .slice none 0 0, .slice none 0 0, .slice ba 1 bc, .slice ca 1 cc, .int .i64 6, .slice none 0 0, .slice none 0 0, .slice none 0 0, .slice none 0 0, .slice none 0 0, .int .i64 0] 38 (0, 0)))
  have M1 := Lib.hid ((hm1.imp (S' := (· < w1.heap.size)) (fun b hb => hb.2)).keeps (fun b hb => heap_alloc_old w1 (.cells #[.string ⟨#[]⟩, .int .i64 0, .slice sa 1 sc, .slice none 0 0, .slice none 0 0, .slice none 0 0, .slice ba 1 bc, .slice ca 1 cc, .int .i64 6, .slice none 0 0, .slice none 0 0, .slice none 0 0, .slice none 0 0, .slice none 0 0, .int .i64 0] 38 (0, 0)) hb))
  have F1 := Lib.hid (heap_alloc_new w1 (.cells #[.string ⟨#[]⟩, .int .i64 0, .slice sa 1 sc, .slice none 0 0, .slice none 0 0, .slice none 0 0, .slice ba 1 bc, .slice ca 1 cc, .int .i64 6, .slice none 0 0, .slice none 0 0, .slice none 0 0, .slice none 0 0, .slice none 0 0, .int .i64 0] 38 (0, 0)))
  have hz2 : w1.heap.size < (w1.alloc (.cells #[.string ⟨#[]⟩, .int .i64 0, .slice sa 1 sc, .slice none 0 0, .slice none 0 0, .slice none 0 0, .slice ba 1 bc, .slice ca 1 cc, .int .i64 6, .slice none 0 0, .slice none 0 0, .slice none 0 0, .slice none 0 0, .slice none 0 0, .int .i64 0] 38 (0, 0))).heap.size := by simp
  clear hm1 hb1
  simp only [imgCells, leastV, leastL]
  have HE := Lib.hid (enc_least _ _ _ _ _ _ _ (M1.out.imp (fun b hb => Nat.lt_trans hb hz2)))
  go_upto_region 2 with fail
  generalize w1.alloc (.cells #[.string ⟨#[]⟩, .int .i64 0, .slice sa 1 sc, .slice none 0 0, .slice none 0 0, .slice none 0 0, .slice ba 1 bc, .slice ca 1 cc, .int .i64 6, .slice none 0 0, .slice none 0 0, .slice none 0 0, .slice none 0 0, .slice none 0 0, .int .i64 0] 38 (0, 0)) = w2 at *
  generalize w1.heap.size = xb at *
  go_wp2_with (refine wpList_load_row rfl 38 (.tmp 1) rfl xb rfl _ _ _ _ F1.out Try.underlying38 rfl (by kernel_rfl) ?_)
  go_wp2_with fail
  refine HE.out.mono ?_
  rintro e w3 ⟨ra, N0, rc, rfl, hb3, hLB⟩
  have hz3 := hb3.size
  have HDd := Lib.hid (HD.out w3 _ hLB (by omega))
  have B3 := Lib.hid (B1.out.trans (hb3.mono (by omega)))
  have M3 := Lib.hid (M1.out.keeps (fun b hb => hb3.block b (by have hb : b < xb := hb; omega)))
  have F3 := Lib.hid ((hb3.block xb hz2).trans F1.out)
  clear HE HD hLB hb3 B1 M1 F1
  go_wp2_with fail
  refine HDd.out.mono ?_
  rintro e w4 ⟨v, rfl, hb4, hm4⟩
  obtain ⟨v1, v2, v3, v4, v5, v6, v7, v8, v9, v10, v11⟩ := v
  obtain ⟨da, dc, e1⟩ := hm4.segs.form
  replace e1 : v1 = .slice da 1 dc := e1
  obtain ⟨a2, c2, e2⟩ := hm4.needed.form
  replace e2 : v2 = .slice a2 0 c2 := e2
  obtain ⟨a3, c3, e3⟩ := hm4.runPath.form
  replace e3 : v3 = .slice a3 0 c3 := e3
  obtain ⟨a4, c4, e4⟩ := hm4.syms.form
  replace e4 : v4 = .slice a4 0 c4 := e4
  obtain ⟨a5, c5, e5⟩ := hm4.buckets.form
  replace e5 : v5 = .slice a5 1 c5 := e5
  obtain ⟨a6, c6, e6⟩ := hm4.words.form
  replace e6 : v6 = .slice a6 1 c6 := e6
  obtain ⟨a7, c7, e7⟩ := hm4.relocs.form
  replace e7 : v7 = .slice a7 0 c7 := e7
  obtain ⟨a8, c8, e8⟩ := hm4.slots.form
  replace e8 : v8 = .slice a8 0 c8 := e8
  obtain ⟨a9, c9, e9⟩ := hm4.init.form
  replace e9 : v9 = .slice a9 0 c9 := e9
  obtain ⟨a10, c10, e10⟩ := hm4.fini.form
  replace e10 : v10 = .slice a10 0 c10 := e10
  obtain ⟨a11, c11, e11⟩ := hm4.tls.form
  replace e11 : v11 = .slice a11 0 c11 := e11
  subst e1 e2 e3 e4 e5 e6 e7 e8 e9 e10 e11
  have hz4 := hb4.size
  obtain ⟨sb, so, h0, h1, h2, h3⟩ : ∃ sb so, da = some ⟨sb, so, none⟩ ∧ (w3.heap.size ≤ sb ∧ sb < w4.heap.size) ∧ w4.cell? ⟨sb, so + 3, none⟩ = some (.int .i64 5) ∧ 1 ≤ dc := by
    obtain ⟨aa, bb, off, cap, hv, hm, ha, hcap, hS, hc⟩ := hm4.segs
    cases hv
    obtain ⟨row, ⟨cc, hrow, _⟩, hcell⟩ := hc 0 _ rfl
    refine ⟨bb, off, ha (by decide), hS (by decide), ?_, hcap.1⟩
    have := hcell 3 (.int .i64 5) (by rw [hrow]; rfl)
    simpa using this
  subst h0
  have G3 := Lib.hid h2
  have B4 := Lib.hid (B3.out.trans (hb4.mono (by omega)))
  have M4 := Lib.hid (M3.out.keeps (fun b hb => hb4.block b (by have hb : b < xb := hb; omega)))
  have F4 := Lib.hid ((hb4.block xb (by omega)).trans F3.out)
  clear h2 hb4 hm4 HDd B3 M3 F3
  simp only [imgCells, leastL]
  go_upto_region 4 with fail
  have FJ := Lib.hid (heap_alloc_new w4 (.cells #[.string ⟨#[]⟩, .int .i64 0, .slice (some ⟨sb, so, none⟩) 1 dc, .slice a2 0 c2, .slice a3 0 c3, .slice a4 0 c4, .slice a5 1 c5, .slice a6 1 c6, .int .i64 6, .slice a7 0 c7, .slice a8 0 c8, .slice a9 0 c9, .slice a10 0 c10, .slice a11 0 c11, .int .i64 0] 38 (0, 0)))
  have F5 := Lib.hid ((heap_alloc_old w4 (.cells #[.string ⟨#[]⟩, .int .i64 0, .slice (some ⟨sb, so, none⟩) 1 dc, .slice a2 0 c2, .slice a3 0 c3, .slice a4 0 c4, .slice a5 1 c5, .slice a6 1 c6, .int .i64 6, .slice a7 0 c7, .slice a8 0 c8, .slice a9 0 c9, .slice a10 0 c10, .slice a11 0 c11, .int .i64 0] 38 (0, 0)) (r := xb) (by omega)).trans F4.out)
  have M5 := Lib.hid (M4.out.keeps (fun b hb => heap_alloc_old w4 (.cells #[.string ⟨#[]⟩, .int .i64 0, .slice (some ⟨sb, so, none⟩) 1 dc, .slice a2 0 c2, .slice a3 0 c3, .slice a4 0 c4, .slice a5 1 c5, .slice a6 1 c6, .int .i64 6, .slice a7 0 c7, .slice a8 0 c8, .slice a9 0 c9, .slice a10 0 c10, .slice a11 0 c11, .int .i64 0] 38 (0, 0)) (by have hb : b < xb := hb; omega)))
  have G5 := Lib.hid ((World.cell?_alloc_lt w4 (.cells #[.string ⟨#[]⟩, .int .i64 0, .slice (some ⟨sb, so, none⟩) 1 dc, .slice a2 0 c2, .slice a3 0 c3, .slice a4 0 c4, .slice a5 1 c5, .slice a6 1 c6, .int .i64 6, .slice a7 0 c7, .slice a8 0 c8, .slice a9 0 c9, .slice a10 0 c10, .slice a11 0 c11, .int .i64 0] 38 (0, 0)) _ h1.2).trans G3.out)
  have B5 := Lib.hid (B4.out.alloc (by omega) (.cells #[.string ⟨#[]⟩, .int .i64 0, .slice (some ⟨sb, so, none⟩) 1 dc, .slice a2 0 c2, .slice a3 0 c3, .slice a4 0 c4, .slice a5 1 c5, .slice a6 1 c6, .int .i64 6, .slice a7 0 c7, .slice a8 0 c8, .slice a9 0 c9, .slice a10 0 c10, .slice a11 0 c11, .int .i64 0] 38 (0, 0)))
  have hz5 : w4.heap.size < (w4.alloc (.cells #[.string ⟨#[]⟩, .int .i64 0, .slice (some ⟨sb, so, none⟩) 1 dc, .slice a2 0 c2, .slice a3 0 c3, .slice a4 0 c4, .slice a5 1 c5, .slice a6 1 c6, .int .i64 6, .slice a7 0 c7, .slice a8 0 c8, .slice a9 0 c9, .slice a10 0 c10, .slice a11 0 c11, .int .i64 0] 38 (0, 0))).heap.size := by simp
  have hj : xb < w4.heap.size := by omega
  clear F4 M4 G3 B4
  generalize w4.alloc (.cells #[.string ⟨#[]⟩, .int .i64 0, .slice (some ⟨sb, so, none⟩) 1 dc, .slice a2 0 c2, .slice a3 0 c3, .slice a4 0 c4, .slice a5 1 c5, .slice a6 1 c6, .int .i64 6, .slice a7 0 c7, .slice a8 0 c8, .slice a9 0 c9, .slice a10 0 c10, .slice a11 0 c11, .int .i64 0] 38 (0, 0)) = w5 at *
  generalize w4.heap.size = jb at *
  have FJ6 := Lib.hid ((heap_alloc_old w5 (.cells #[.int .i64 0, .int .i64 1, .int .i64 (-1), .int .i64 0] 57 (0, 0)) hz5).trans FJ.out)
  have F6 := Lib.hid ((heap_alloc_old w5 (.cells #[.int .i64 0, .int .i64 1, .int .i64 (-1), .int .i64 0] 57 (0, 0)) (r := xb) (by omega)).trans F5.out)
  have M6 := Lib.hid (M5.out.keeps (fun b hb => heap_alloc_old w5 (.cells #[.int .i64 0, .int .i64 1, .int .i64 (-1), .int .i64 0] 57 (0, 0)) (by have hb : b < xb := hb; omega)))
  have G6 := Lib.hid ((World.cell?_alloc_lt w5 (.cells #[.int .i64 0, .int .i64 1, .int .i64 (-1), .int .i64 0] 57 (0, 0)) ⟨sb, so + 3, none⟩ (by show sb < _; omega)).trans G5.out)
  have B6 := Lib.hid (B5.out.alloc (by omega) (.cells #[.int .i64 0, .int .i64 1, .int .i64 (-1), .int .i64 0] 57 (0, 0)))
  have FR6 := Lib.hid (heap_alloc_new w5 (.cells #[.int .i64 0, .int .i64 1, .int .i64 (-1), .int .i64 0] 57 (0, 0)))
  have hz6 : w5.heap.size < (w5.alloc (.cells #[.int .i64 0, .int .i64 1, .int .i64 (-1), .int .i64 0] 57 (0, 0))).heap.size := by simp
  have c9 : (w5.alloc (.cells #[.int .i64 0, .int .i64 1, .int .i64 (-1), .int .i64 0] 57 (0, 0))).cell? ⟨xb, 9, none⟩ = some (.slice none 0 0) := by rw [Lib.cell_of_heap F6.out]; rfl
  have f9 : (w5.alloc (.cells #[.int .i64 0, .int .i64 1, .int .i64 (-1), .int .i64 0] 57 (0, 0))).frozen? ⟨xb, 9, none⟩ = false := Lib.frozen_of_heap F6.out 9
  clear F5 M5 G5 B5 FJ
  go_upto_region 5 with fail
  have hrb : xb < w5.heap.size := by omega
  have FX7 := Lib.hid (setCell_row1 (k := 9) (.slice (some ⟨w5.heap.size, 0, none⟩) 1 1) F6.out)
  have hs9 := setCell_step (w5.alloc (.cells #[.int .i64 0, .int .i64 1, .int .i64 (-1), .int .i64 0] 57 (0, 0))) xb 9 (.slice (some ⟨w5.heap.size, 0, none⟩) 1 1)
  have FJ7 := Lib.hid ((hs9.block jb (by omega)).trans FJ6.out)
  have FR7 := Lib.hid ((hs9.block w5.heap.size (by omega)).trans FR6.out)
  have M7 := Lib.hid (M6.out.keeps (fun b hb => hs9.block b (by have hb : b < xb := hb; omega)))
  have G7 := Lib.hid ((hs9.cell (p := ⟨sb, so + 3, none⟩) (by show sb ≠ xb; omega)).trans G6.out)
  have B7 := Lib.hid (((Step.of_below B6.out).trans (hs9.imp (fun x hx => by have hx : x < w.heap.size := hx; show x ≠ xb; omega))).below)
  have hz7 : (w5.alloc (.cells #[.int .i64 0, .int .i64 1, .int .i64 (-1), .int .i64 0] 57 (0, 0))).heap.size = ((w5.alloc (.cells #[.int .i64 0, .int .i64 1, .int .i64 (-1), .int .i64 0] 57 (0, 0))).setCell ⟨xb, 9, none⟩ (.slice (some ⟨w5.heap.size, 0, none⟩) 1 1)).heap.size := by simp
  rw [hz7] at hz6
  clear c9 f9 hs9 F6 FJ6 FR6 M6 G6 B6 hz7
  generalize (w5.alloc (.cells #[.int .i64 0, .int .i64 1, .int .i64 (-1), .int .i64 0] 57 (0, 0))).setCell ⟨xb, 9, none⟩ (.slice (some ⟨w5.heap.size, 0, none⟩) 1 1) = w7 at *
  generalize w5.heap.size = rb at *
  have HY := Lib.hid (may_of w7 noneV noneImg 91 (imgM_none _ _) may_empty)
  go_wp2_with fail
  refine HY.out.mono ?_
  rintro e w8 ⟨rfl, hb8⟩
  have hz8 := hb8.size
  have FX8 := Lib.hid ((hb8.block xb (by omega)).trans FX7.out)
  have FJ8 := Lib.hid ((hb8.block jb (by omega)).trans FJ7.out)
  have FR8 := Lib.hid ((hb8.block rb (by omega)).trans FR7.out)
  have M8 := Lib.hid (M7.out.keeps (fun b hb => hb8.block b (by have hb : b < xb := hb; omega)))
  have G8 : w8.cell? ⟨sb, so + 3, none⟩ = some (.int .i64 5) := (World.cell?_of_block (a := ⟨sb, so + 3, none⟩) (hb8.block sb (by omega))).trans G7.out
  have B8 := Lib.hid (B7.out.trans (hb8.mono (by omega)))
  have cJ : w8.cell? ⟨jb, 2, none⟩ = some (.slice (some ⟨sb, so, none⟩) 1 dc) := by rw [Lib.cell_of_heap FJ8.out]; rfl
  have x0 : w8.cell? ⟨xb, 0, none⟩ = some (.string ⟨#[]⟩) := by rw [Lib.cell_of_heap FX8.out]; rfl
  have x1 : w8.cell? ⟨xb, 1, none⟩ = some (.int .i64 0) := by rw [Lib.cell_of_heap FX8.out]; rfl
  have x2 : w8.cell? ⟨xb, 2, none⟩ = some (.slice sa 1 sc) := by rw [Lib.cell_of_heap FX8.out]; rfl
  have x3 : w8.cell? ⟨xb, 3, none⟩ = some (.slice none 0 0) := by rw [Lib.cell_of_heap FX8.out]; rfl
  have x4 : w8.cell? ⟨xb, 4, none⟩ = some (.slice none 0 0) := by rw [Lib.cell_of_heap FX8.out]; rfl
  have x5 : w8.cell? ⟨xb, 5, none⟩ = some (.slice none 0 0) := by rw [Lib.cell_of_heap FX8.out]; rfl
  have x6 : w8.cell? ⟨xb, 6, none⟩ = some (.slice ba 1 bc) := by rw [Lib.cell_of_heap FX8.out]; rfl
  have x7 : w8.cell? ⟨xb, 7, none⟩ = some (.slice ca 1 cc) := by rw [Lib.cell_of_heap FX8.out]; rfl
  have x8 : w8.cell? ⟨xb, 8, none⟩ = some (.int .i64 6) := by rw [Lib.cell_of_heap FX8.out]; rfl
  have x9 : w8.cell? ⟨xb, 9, none⟩ = some (.slice (some ⟨rb, 0, none⟩) 1 1) := by rw [Lib.cell_of_heap FX8.out]; rfl
  have x10 : w8.cell? ⟨xb, 10, none⟩ = some (.slice none 0 0) := by rw [Lib.cell_of_heap FX8.out]; rfl
  have x11 : w8.cell? ⟨xb, 11, none⟩ = some (.slice none 0 0) := by rw [Lib.cell_of_heap FX8.out]; rfl
  have x12 : w8.cell? ⟨xb, 12, none⟩ = some (.slice none 0 0) := by rw [Lib.cell_of_heap FX8.out]; rfl
  have x13 : w8.cell? ⟨xb, 13, none⟩ = some (.slice none 0 0) := by rw [Lib.cell_of_heap FX8.out]; rfl
  have x14 : w8.cell? ⟨xb, 14, none⟩ = some (.int .i64 0) := by rw [Lib.cell_of_heap FX8.out]; rfl
  have HZ := Lib.hid (may_of w8 (relV (.slice sa 1 sc) (.slice ba 1 bc) (.slice ca 1 cc) (.slice (some ⟨rb, 0, none⟩) 1 1)) relImg 94 (rel_img (M8.out.imp (fun b hb => by have hb : b < xb := hb; show b < _; omega)) (rel_lb (by omega) FR8.out)) may_rel)
  clear HY hb8 FX7 FJ7 FR7 M7 G7 B7 FX8 FJ8 FR8 M8
  go_wp2_with fail
  refine HZ.out.mono ?_
  rintro e w9 ⟨rfl, hb9⟩
  have B9 := Lib.hid (B8.out.trans (hb9.mono (by omega)))
  clear HZ hb9
  go_wp2
  go_ret
  exact ⟨rfl, B9.out⟩

end Go.Proofs.Ytbliedldlimpgaa

/- The law ImageCut: what the program's functions come to. -/
namespace Go.Proofs.Ytbliedldlimpgaa
set_option linter.unusedVariables false
set_option linter.unusedSimpArgs false
open Go.RowKit

/-- what a call of Decode comes to, as the laws want it -/
def DecSays : Prop := ∀ (w : World) (bv : Value) (l : List UInt8), LB kByte (· < w.heap.size) w bv l → l.length ≤ 140737488355328 → 0 < w.heap.size →
  Calls Try.prog 15 #[bv] w fun e w' => ∃ v im code, e = .returned (.tuple #[.agg (imgCells v im), .int .i64 code]) ∧ Below w.heap.size w w' ∧ ImgM (fun b => w.heap.size ≤ b ∧ b < w'.heap.size) w' v im ∧
    (wholeP l = none → code = 98) ∧ (∀ x, wholeP l = some x → mayL x = 0 → im = x ∧ code = 0) ∧ (code = 0 → ∃ x, wholeP l = some x ∧ mayL x = 0)
def AwakeSays : Prop := ∀ w : World, Calls Try.prog 9 #[] w fun e w' => e = .returned (.bool true) ∧ Below w.heap.size w w'
theorem awake_says (h : DecSays) : AwakeSays := fun w => awake_of (fun w bv hl hw => (h w bv (formL leastL) hl (of_decide_eq_true (by kernel_rfl)) hw).mono (fun e w' ⟨v, im, code, he, hb, hm, _, h2, _⟩ => by
  obtain ⟨rfl, rfl⟩ := h2 leastL (whole_form (may_ok may_least (fun x hx => by simp [leastL] at hx; subst hx; decide))) may_least
  exact ⟨v, he, hb, hm⟩)) w
theorem LB.one' {α : Type} {K : Kind α} {S : Nat → Prop} {w : World} {v : Value} {l : List α} (h : LB K S w v l) : v.oneCell' = true := by
  obtain ⟨a, c, rfl⟩ := h.form
  rfl
theorem ImgM.cells {S : Nat → Prop} {w : World} {v : ImgV} {im : ImgL} (h : ImgM S w v im) : (imgCells v im).all (·.oneCell') = true := by
  have o1 := h.segs.one'
  have o2 := h.needed.one'
  have o3 := h.runPath.one'
  have o4 := h.syms.one'
  have o5 := h.buckets.one'
  have o6 := h.words.one'
  have o7 := h.relocs.one'
  have o8 := h.slots.one'
  have o9 := h.init.one'
  have o10 := h.fini.one'
  have o11 := h.tls.one'
  have s1 : (Value.string ⟨im.name.toArray⟩).oneCell' = true := rfl
  have s2 : ∀ n, (Value.int .i64 n).oneCell' = true := fun n => rfl
  simp [imgCells, s1, s2, o1, o2, o3, o4, o5, o6, o7, o8, o9, o10, o11]
theorem form_len {im : ImgL} (h : OkImg im) (f : Few im) : (formL im).length ≤ 1000000000 := by
  have h1 := flat_len segF 1048589 im.segs (fun x hx => segF_len (h.segs.2 x hx))
  have h2 := flat_len needF 1053187 im.needed (fun x hx => needF_len (h.needed.2 x hx))
  have h3 := flat_len textL' 4098 im.runPath (fun x hx => by have := h.runPath.2 x hx; simp only [textL', List.length_append, digitsL_len]; omega)
  have h4 := flat_len symF 8217 im.syms (fun x hx => symF_len (h.syms.2 x hx))
  have h5 := flat_len chainF 131074 im.buckets (fun x hx => chainF_len (h.buckets.2 x hx).1)
  have h6 := flat_len relF 25 im.relocs (fun x hx => relF_len x)
  have h7 := flat_len slotF 12 im.slots (fun x hx => slotF_len x)
  have g1 := f.segs
  have g2 := f.needed
  have g3 := f.runPath
  have g4 := f.syms
  have g5 := f.buckets
  have g6 := f.words
  have g7 := f.relocs
  have g8 := f.slots
  have g9 := f.init
  have g10 := f.fini
  have g11 := h.name
  have g12 := h.tls
  have h3' : (textsL im.runPath).length ≤ 4098 * im.runPath.length := h3
  have hm : magicL.length = 7 := rfl
  unfold formL
  simp only [List.length_append, digitsL_len, numsL_len, textL', blockL, hm]
  omega

set_option maxHeartbeats 16000000 in
set_option maxRecDepth 100000 in
theorem cut_of (HDec : DecSays) (w : World) (v : ImgV) (im : ImgL) (n : Int) (hn : 0 ≤ n ∧ n < 65536) (mv : Value) (more : List UInt8) (hm : ImgM (· < w.heap.size) w v im) (hmv : LB kByte (· < w.heap.size) w mv more) (hl : more.length ≤ 1048576) :
    Calls Try.prog 6 #[.agg (imgCells v im), .int .u16 n, mv] w fun e w' => e = .returned (.bool true) ∧ Below w.heap.size w w' := by
  have HD := Lib.hid HDec
  have HAw := Lib.hid (awake_says HDec)
  obtain ⟨ma, mc, rfl⟩ := hmv.form
  have Hn := Lib.hid hn
  have F0 := Lib.hid (heap_alloc_new w (.cells (imgCells v im) 38 (0, 0)))
  have M0 := Lib.hid (hm.keeps (fun b hb => heap_alloc_old w (.cells (imgCells v im) 38 (0, 0)) hb))
  have V0 := Lib.hid (hmv.keeps (fun b hb => heap_alloc_old w (.cells (imgCells v im) 38 (0, 0)) hb))
  have B0 := Lib.hid ((Below.refl w.heap.size w).alloc (Nat.le_refl _) (.cells (imgCells v im) 38 (0, 0)))
  have hz0 : w.heap.size < (w.alloc (.cells (imgCells v im) 38 (0, 0))).heap.size := by simp
  clear hm hmv HDec hn
  go_enter Try.func6, Try.ntmps6
  go_upto_region 1 with fail
  generalize w.alloc (.cells (imgCells v im) 38 (0, 0)) = w1 at *
  go_wp2_with fail
  refine (HAw.out _).mono ?_
  rintro e w2 ⟨rfl, hb2⟩
  have hz2 := hb2.size
  have F2 := Lib.hid ((hb2.block w.heap.size hz0).trans F0.out)
  have M2 := Lib.hid (M0.out.keeps (fun b hb => hb2.block b (by have hb : b < w.heap.size := hb; omega)))
  have V2 := Lib.hid (V0.out.keeps (fun b hb => hb2.block b (by have hb : b < w.heap.size := hb; omega)))
  have B2 := Lib.hid (B0.out.trans (hb2.mono (by omega)))
  have HE := Lib.hid (iencode_any w2 v im (M2.out.imp (fun b hb => by have hb : b < w.heap.size := hb; show b < _; omega)))
  clear hb2 F0 M0 V0 B0 HAw
  have hI : (imgCells v im).size = 15 := rfl
  generalize imgCells v im = I at *
  obtain ⟨mm, hmm⟩ : ∃ mm, mayL im = mm := ⟨_, rfl⟩
  rw [hmm] at HE
  have Hmm := Lib.hid hmm
  clear hmm
  go_wp2_with (refine wpList_load_row rfl 38 (.tmp 3) rfl w.heap.size rfl _ _ _ _ F2.out Try.underlying38 rfl (by rw [hI]; kernel_rfl) ?_)
  clear hI
  go_wp2_with fail
  refine HE.out.mono ?_
  rintro e w3 ⟨r, rfl, hb3, hr1, hr2⟩
  have hz3 := hb3.size
  have V3 := Lib.hid (V2.out.keeps (fun b hb => hb3.block b (by have hb : b < w.heap.size := hb; omega)))
  have B3 := Lib.hid (B2.out.trans (hb3.mono (by omega)))
  have HW := Lib.hid M2.out.wordsR
  clear hb3 HE F2 M2 V2 B2
  by_cases h0 : mm = 0
  · have HO := Lib.hid (hr2 h0)
    have hok := may_ok (Hmm.out.trans h0) HW.out
    have Hcut := Lib.hid (fun k (h : k < (formL im).length) => whole_cut hok h)
    have Hmore := Lib.hid (fun (h : more ≠ []) => whole_more hok h)
    have hpos := form_pos im
    have hfl := form_len hok (may_few (Hmm.out.trans h0))
    subst h0
    clear hr1 hr2 hok Hmm HW
    generalize formL im = fl at *
    obtain ⟨ra, rc, hrf⟩ := HO.out.form
    subst hrf
    obtain ⟨N, hN⟩ : ∃ N, fl.length = N := ⟨_, rfl⟩
    rw [hN] at hpos hfl ⊢
    have HN := Lib.hid hN
    have hd1 : decide ((N : Int) = 0) = false := by rw [decide_eq_false_iff_not]; omega
    clear hN
    obtain ⟨k, hk⟩ : ∃ k, n.toNat % N = k := ⟨_, rfl⟩
    have hkN : k < N := by rw [← hk]; exact Nat.mod_lt _ hpos
    have e1 : (wrap64 n).tmod (N : Int) = (k : Int) := by
      obtain ⟨h1, h2⟩ := Hn.out
      have ew : wrap64 n = n := by unfold wrap64; omega
      rw [ew, Int.tmod_eq_emod_of_nonneg h1, ← hk]
      have : ((n.toNat : Nat) : Int) = n := Int.toNat_of_nonneg h1
      rw [Int.natCast_emod, this]
    have LF := Lib.hid (HO.out.lb.imp (S' := (· < w3.heap.size)) (fun b hb => hb.1))
    have hcap : N ≤ rc := by
      obtain ⟨aa, bb, off, cap, hv, _, _, hc, _⟩ := LF.out
      cases hv
      have := HN.out
      omega
    have LK : Hid (LB kByte (· < w3.heap.size) w3 (.slice ra k rc) (fl.take k)) := Lib.hid (LB.take_byte LF.out k (by rw [HN.out]; omega))
    have hlk : (fl.take k).length ≤ 140737488355328 := by rw [List.length_take]; omega
    have HD1 := Lib.hid (HD.out w3 _ _ LK.out hlk (by omega))
    have HC1 := Lib.hid (Hcut.out k (by rw [HN.out]; exact hkN))
    clear hk hlk LK
    go_wp2_with fail
    refine HD1.out.mono ?_
    rintro e w4 ⟨v4, im4, code4, rfl, hb4, hm4, hd4, -, -⟩
    obtain rfl := hd4 HC1.out
    have hz4 := hb4.size
    have LN : Hid (LB kByte (· < w3.heap.size) w4 (.slice ra N rc) fl) := Lib.hid (by
      have h := LF.out
      rw [HN.out] at h
      exact h.keeps (fun b hb => hb4.block b hb))
    have V4 := Lib.hid (V3.out.keeps (fun b hb => hb4.block b (by have hb : b < w.heap.size := hb; omega)))
    have B4 := Lib.hid (B3.out.trans (hb4.mono (by omega)))
    have HOne := Lib.hid hm4.cells
    have hI4 : (imgCells v4 im4).size = 15 := rfl
    have FZ := Lib.hid (heap_alloc_new w4 (.cells #[.string ⟨#[]⟩, .int .i64 0, .slice none 0 0, .slice none 0 0, .slice none 0 0, .slice none 0 0, .slice none 0 0, .slice none 0 0, .int .i64 0, .slice none 0 0, .slice none 0 0, .slice none 0 0, .slice none 0 0, .slice none 0 0, .int .i64 0] 38 (0, 0)))
    have hz5 : w4.heap.size < (w4.alloc (.cells #[.string ⟨#[]⟩, .int .i64 0, .slice none 0 0, .slice none 0 0, .slice none 0 0, .slice none 0 0, .slice none 0 0, .slice none 0 0, .int .i64 0, .slice none 0 0, .slice none 0 0, .slice none 0 0, .slice none 0 0, .slice none 0 0, .int .i64 0] 38 (0, 0))).heap.size := by simp
    clear hb4 hm4 hd4 HD1 HC1 LF V3 B3 e1 Hcut
    generalize imgCells v4 im4 = I4 at *
    go_upto_region 6 with (refine wpList_store_row rfl 38 (.tmp 10) (.tmp 42) rfl w4.heap.size I4 rfl rfl _ _ FZ.out (by rw [hI4]; kernel_rfl) (by rw [hI4]; rfl) HOne.out ?_)
    have S5 : Hid (Step (· < w4.heap.size) w4 ((w4.alloc (.cells #[.string ⟨#[]⟩, .int .i64 0, .slice none 0 0, .slice none 0 0, .slice none 0 0, .slice none 0 0, .slice none 0 0, .slice none 0 0, .int .i64 0, .slice none 0 0, .slice none 0 0, .slice none 0 0, .slice none 0 0, .slice none 0 0, .int .i64 0] 38 (0, 0))).setRow w4.heap.size I4)) := Lib.hid (((Step.refl (· < w4.heap.size) w4).alloc (fun b hb => hb) (.cells #[.string ⟨#[]⟩, .int .i64 0, .slice none 0 0, .slice none 0 0, .slice none 0 0, .slice none 0 0, .slice none 0 0, .slice none 0 0, .int .i64 0, .slice none 0 0, .slice none 0 0, .slice none 0 0, .slice none 0 0, .slice none 0 0, .int .i64 0] 38 (0, 0))).trans ((jm_row _ w4.heap.size I4).imp (fun x hx => Nat.ne_of_lt hx)))
    clear hI4 HOne FZ hz5
    generalize (w4.alloc (.cells #[.string ⟨#[]⟩, .int .i64 0, .slice none 0 0, .slice none 0 0, .slice none 0 0, .slice none 0 0, .slice none 0 0, .slice none 0 0, .int .i64 0, .slice none 0 0, .slice none 0 0, .slice none 0 0, .slice none 0 0, .slice none 0 0, .int .i64 0] 38 (0, 0))).setRow w4.heap.size I4 = w5 at *
    have hz5 := S5.out.size
    have LN5 := Lib.hid (LN.out.keeps (fun b hb => S5.out.block b (by have hb : b < w3.heap.size := hb; show b < _; omega)))
    have V5 := Lib.hid (V4.out.keeps (fun b hb => S5.out.block b (by have hb : b < w.heap.size := hb; show b < _; omega)))
    have B5 : Hid (Below w.heap.size w w5) := Lib.hid (((Step.of_below B4.out).trans (S5.out.imp (fun x hx => by have hx : x < w.heap.size := hx; show x < _; omega))).below)
    clear LN V4 B4 S5
    go_wp2_with (at_builtin; refine wpList_appendsK (B := w5.heap.size) (E := fun _ => False) (l := []) plain_byte 36 (.int .u8 0) 1 Try.underlying36 info_byte rfl rfl (.tmp 44) (.tmp 45) rfl rfl (OwnK.nil _ _ _ _ _) (fun x hx => hx.elim) _ fl rfl LN5.out ?c1 ?c2 (Nat.le_refl _) ?_)
    case c1 => rw [HN.out]; simp; omega
    case c2 => rw [HN.out]; simp; omega
    intro x6 w6 ho6 hs6 _
    have S6 := Lib.hid (hs6.imp (S' := (· < w5.heap.size)) (fun b hb => ⟨hb, by simp [Value.ownBlock]⟩))
    have hz6 := hs6.size
    have O6 := Lib.hid ho6
    have V6 := Lib.hid (V5.out.keeps (fun b hb => S6.out.block b (by have hb : b < w.heap.size := hb; show b < _; omega)))
    clear ho6 hs6 LN5
    go_wp2_with (at_builtin; refine wpList_appendsK (B := w5.heap.size) (E := fun _ => False) (v := x6) (l := fl) plain_byte 36 (.int .u8 0) 1 Try.underlying36 info_byte rfl rfl (.tmp 47) (.tmp 48) rfl rfl O6.out (fun x hx => hx.elim) _ more rfl V6.out ?c1 ?c2 (by omega) ?_)
    case c1 => rw [HN.out]; omega
    case c2 => rw [HN.out]; omega
    intro x7 w7 ho7 hs7 _
    have hz7 := hs7.size
    have S7 := Lib.hid (hs7.imp (S' := (· < w.heap.size)) (fun b hb => ⟨by have hb : b < w.heap.size := hb; omega, fun e => by have := (O6.out.lt b e).1; have hb : b < w.heap.size := hb; omega⟩))
    have LL : Hid (LB kByte (· < w7.heap.size) w7 x7 (fl ++ more)) := Lib.hid (ho7.lb.imp (fun b hb => hb.1))
    have B7 : Hid (Below w.heap.size w w7) := Lib.hid ((((Step.of_below B5.out).trans (S6.out.imp (fun x hx => by have hx : x < w.heap.size := hx; show x < _; omega))).trans S7.out).below)
    have HD2 := Lib.hid (HD.out w7 x7 _ LL.out (by rw [List.length_append, HN.out]; omega) (by omega))
    clear ho7 hs7 O6 V5 V6 S6 S7 B5 LL HD
    go_wp2_with fail
    refine HD2.out.mono ?_
    rintro e w8 ⟨v8, im8, code8, rfl, hb8, hm8, hd8, -, -⟩
    have hz8 := hb8.size
    have B8 := Lib.hid (B7.out.trans (hb8.mono (by omega)))
    have HC : Hid (more ≠ [] → code8 = 98) := Lib.hid (fun h => hd8 (Hmore.out h))
    have HOne := Lib.hid hm8.cells
    have hI4 : (imgCells v8 im8).size = 15 := rfl
    have FZ := Lib.hid (heap_alloc_new w8 (.cells #[.string ⟨#[]⟩, .int .i64 0, .slice none 0 0, .slice none 0 0, .slice none 0 0, .slice none 0 0, .slice none 0 0, .slice none 0 0, .int .i64 0, .slice none 0 0, .slice none 0 0, .slice none 0 0, .slice none 0 0, .slice none 0 0, .int .i64 0] 38 (0, 0)))
    have hz9 : w8.heap.size < (w8.alloc (.cells #[.string ⟨#[]⟩, .int .i64 0, .slice none 0 0, .slice none 0 0, .slice none 0 0, .slice none 0 0, .slice none 0 0, .slice none 0 0, .int .i64 0, .slice none 0 0, .slice none 0 0, .slice none 0 0, .slice none 0 0, .slice none 0 0, .int .i64 0] 38 (0, 0))).heap.size := by simp
    clear hb8 hm8 hd8 HD2 B7 Hmore HN
    generalize imgCells v8 im8 = I8 at *
    go_upto_region 10 with (refine wpList_store_row rfl 38 (.tmp 13) (.tmp 53) rfl w8.heap.size I8 rfl rfl _ _ FZ.out (by rw [hI4]; kernel_rfl) (by rw [hI4]; rfl) HOne.out ?_)
    have B9 : Hid (Below w.heap.size w ((w8.alloc (.cells #[.string ⟨#[]⟩, .int .i64 0, .slice none 0 0, .slice none 0 0, .slice none 0 0, .slice none 0 0, .slice none 0 0, .slice none 0 0, .int .i64 0, .slice none 0 0, .slice none 0 0, .slice none 0 0, .slice none 0 0, .slice none 0 0, .int .i64 0] 38 (0, 0))).setRow w8.heap.size I8)) := Lib.hid (((Step.of_below B8.out).trans ((((Step.refl (· < w8.heap.size) w8).alloc (fun b hb => hb) (.cells #[.string ⟨#[]⟩, .int .i64 0, .slice none 0 0, .slice none 0 0, .slice none 0 0, .slice none 0 0, .slice none 0 0, .slice none 0 0, .int .i64 0, .slice none 0 0, .slice none 0 0, .slice none 0 0, .slice none 0 0, .slice none 0 0, .int .i64 0] 38 (0, 0))).trans ((jm_row _ w8.heap.size I8).imp (fun x hx => Nat.ne_of_lt hx))).imp (fun x hx => by have hx : x < w.heap.size := hx; show x < _; omega))).below)
    clear hI4 HOne FZ hz9 B8
    generalize (w8.alloc (.cells #[.string ⟨#[]⟩, .int .i64 0, .slice none 0 0, .slice none 0 0, .slice none 0 0, .slice none 0 0, .slice none 0 0, .slice none 0 0, .int .i64 0, .slice none 0 0, .slice none 0 0, .slice none 0 0, .slice none 0 0, .slice none 0 0, .int .i64 0] 38 (0, 0))).setRow w8.heap.size I8 = w9 at *
    by_cases hm0 : more = []
    · subst hm0
      go_wp2
      go_ret
      exact ⟨rfl, B9.out⟩
    · obtain rfl := HC.out hm0
      have hml : 0 < more.length := List.length_pos_iff.2 hm0
      have hd2 : ((more.length : Int) == 0) = false := by rw [beq_eq_false_iff_ne]; omega
      clear hm0 HC
      go_wp2
      go_ret
      exact ⟨rfl, B9.out⟩
  · have hr := hr1 h0
    subst hr
    have hd1 : (mm != 0) = true := by simpa using h0
    clear hr1 hr2 Hmm HW V3
    go_wp2
    go_ret
    exact ⟨rfl, B3.out⟩

end Go.Proofs.Ytbliedldlimpgaa

/- What a call of image.Decode comes to, as the laws want it. -/
namespace Go.Proofs.Ytbliedldlimpgaa
set_option linter.unusedVariables false
set_option linter.unusedSimpArgs false
open Go.RowKit

theorem dec_says : DecSays := fun w bv l hl hlen hw => (idecode_any w bv l hl hlen hw).mono fun e w' ⟨v, he, hb, hm⟩ => by
  refine ⟨v, _, _, he, hb, hm, fun h => by unfold decL; rw [h], fun x hx h0 => by unfold decL; rw [hx]; show (if mayL x = 0 then _ else _ : ImgL × Int).1 = _ ∧ (if mayL x = 0 then _ else _ : ImgL × Int).2 = _; rw [if_pos h0]; exact ⟨rfl, rfl⟩, fun h => ?_⟩
  unfold decL at h
  cases hw : wholeP l with
  | none => rw [hw] at h; cases h
  | some x =>
    rw [hw] at h
    by_cases h0 : mayL x = 0
    · exact ⟨x, rfl, h0⟩
    · have h : (if mayL x = 0 then (x, 0) else (emptyL, mayL x) : ImgL × Int).2 = 0 := h
      rw [if_neg h0] at h
      exact absurd h h0

end Go.Proofs.Ytbliedldlimpgaa
