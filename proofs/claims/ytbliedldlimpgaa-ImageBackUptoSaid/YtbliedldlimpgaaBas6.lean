/- What a call of image.Decode comes to, as the laws want it. -/
import Derived.Test.YtbliedldlimpgaaBas5
import Derived.Laws.ResultCell
import Derived.Laws.Tables
import Derived.Deep.RegionHeld

namespace Go.Proofs.Ytbliedldlimpgaa
set_option linter.unusedVariables false
set_option linter.unusedSimpArgs false
open Go.RowKit

theorem ImgM.move {B rb lb ib : Nat} {w w' : World} {v : ImgV} {im : ImgL} (h : ImgM (fun b => B ≤ b ∧ b < w.heap.size) w v im) (hs : Step (fun x => x < w.heap.size ∧ x ≠ rb ∧ x ≠ lb ∧ x ≠ ib) w w') (h1 : rb < B) (h2 : lb < B) (h3 : ib < B) : ImgM (fun b => B ≤ b ∧ b < w'.heap.size) w' v im :=
  (h.keeps (fun b hb => hs.block b ⟨hb.2, by have := hb.1; omega, by have := hb.1; omega, by have := hb.1; omega⟩)).imp (fun b hb => ⟨hb.1, Nat.lt_of_lt_of_le hb.2 hs.size⟩)
set_option maxHeartbeats 64000000 in
set_option maxRecDepth 100000 in
theorem idecode_any (w : World) (bv : Value) (l : List UInt8) (hl : LB kByte (· < w.heap.size) w bv l) (hlen : l.length ≤ 140737488355328) (hw : 0 < w.heap.size) :
    Calls Try.prog 15 #[bv] w fun e w' => ∃ v, e = .returned (.tuple #[.agg (imgCells v (decL l).1), .int .i64 (decL l).2]) ∧ Below w.heap.size w w' ∧ ImgM (fun b => w.heap.size ≤ b ∧ b < w'.heap.size) w' v (decL l).1 := by
  obtain ⟨va, vc, rfl⟩ := hl.form
  refine calls_of_wp (c := dRest Try.f15 0) Try.func15 (by kernel_rfl) ?_
  refine dhead (w := w) (va := va) (vc := vc) (l := l) ⟨by kernel_rfl, rfl, by kernel_rfl, trivial⟩ hl hlen hw ?_
  intro a w4 lb rb gb x0 st0 st1 o hF hL4 hG0 ho hst hB4 hZ4 hzr hzl
  have hP : ∀ (x : List PanicEntry) (a a' : Act) (w0 : World), a'.defers = a.defers → bodyPost Try.prog Try.f15 (fun e w' => ∃ v, e = .returned (.tuple #[.agg (imgCells v (decL l).1), .int .i64 (decL l).2]) ∧ Below w.heap.size w w' ∧ ImgM (fun b => w.heap.size ≤ b ∧ b < w'.heap.size) w' v (decL l).1) (.panic x) a w0 → bodyPost Try.prog Try.f15 (fun e w' => ∃ v, e = .returned (.tuple #[.agg (imgCells v (decL l).1), .int .i64 (decL l).2]) ∧ Below w.heap.size w w' ∧ ImgM (fun b => w.heap.size ≤ b ∧ b < w'.heap.size) w' v (decL l).1) (.panic x) a' w0 := fun _ _ _ _ e h => ⟨e.trans h.1, h.2⟩
  have hne := hL4.ne
  have hng := hL4.ng
  have hlt4 := hL4.lt
  have hrt4 := hL4.rblt
  have hgt4 := hL4.gblt
  have e3 : dRest Try.f15 3 = .seq (dCode Try.f15 3) (dRest Try.f15 4) := d_seq _ 3 (by kernel_rfl)
  rw [e3]
  refine wp_seq (dreg0 ?_ (z := w.heap.size) hF hL4 hne hng ?_)
  · exact fun x a a' w e h => hP x a a' w e h
  intro a w5 ib name flags s0 st hF hG1 hK1 hG2 hK2 hL hX hT hib
  show Code.wp _ (dRest Try.f15 4) _ a w5
  have hib5 : ib < w5.heap.size := by
    rcases Nat.lt_or_ge ib w5.heap.size with h | h
    · exact h
    · rw [Array.getElem?_eq_none h] at hX; cases hX
  have hz45 := hT.size
  have hir : ib ≠ rb := by omega
  have hil : ib ≠ lb := by omega
  have hig : ib ≠ gb := by omega
  have hZ : w5.heap[w.heap.size]? = _ := (hT.block w.heap.size ⟨by have := hB4.size; omega, by omega⟩).trans hZ4
  have hB : Below w.heap.size w w5 := ((Step.of_below hB4).trans (hT.imp (fun x hx => ⟨by have := hB4.size; omega, by omega⟩))).below
  obtain ⟨B, hBB⟩ : ∃ B, B = w5.heap.size := ⟨_, rfl⟩
  have hrB : rb < B := by omega
  have hlB : lb < B := by omega
  have hiB : ib < B := by omega
  have hwB : w.heap.size < B := by omega
  have hBle : B ≤ w5.heap.size := by omega
  have hzi : w.heap.size < ib := by omega
  have hM : ImgM (fun b => B ≤ b ∧ b < w5.heap.size) w5 ⟨.slice none 0 0, .slice none 0 0, .slice none 0 0, .slice none 0 0, .slice none 0 0, .slice none 0 0, .slice none 0 0, .slice none 0 0, .slice none 0 0, .slice none 0 0, .slice none 0 0⟩ ⟨name, flags, [], [], [], [], [], [], 0, [], [], [], [], [], 0⟩ :=
    { imgM_empty _ _ with name := Nat.le_trans hK1 (by decide), flags := okN_int64 hK2 }
  have hX : w5.heap[ib]? = some (imgBlock name flags ⟨.slice none 0 0, .slice none 0 0, .slice none 0 0, .slice none 0 0, .slice none 0 0, .slice none 0 0, .slice none 0 0, .slice none 0 0, .slice none 0 0, .slice none 0 0, .slice none 0 0⟩ 0 0) := hX
  clear hT hZ4 hB4 hL4 hBB hlt4 hrt4 hgt4 hz45 e3
  have e0 : dRest Try.f15 4 = .seq (dCode Try.f15 4) (dRest Try.f15 5) := d_seq _ 4 (by kernel_rfl)
  rw [e0]
  clear e0
  refine wp_seq (dloop1 ?_ (z := w.heap.size) hF hL hX hir hil hig hne hng hib5 ?_)
  · exact fun x a a' w e h => hP x a a' w e h
  intro a w6 m4 segs u1 u2 vsegs hF hGnsegs hmsegs hc hGsegs hK hL6 hX6 hT hPl
  show Code.wp _ (dRest Try.f15 5) _ a w6
  have hZ6 : w6.heap[w.heap.size]? = _ := (hT.block w.heap.size ⟨by omega, by omega, by omega, by omega⟩).trans hZ
  have hB6 : Below w.heap.size w w6 := ((Step.of_below hB).trans (hT.imp (fun x hx => ⟨by omega, by omega, by omega, by omega⟩))).below
  have hz6 := hT.size
  have hM6 := hM.move hT hrB hlB hiB
  have hM7 : ImgM (fun b => B ≤ b ∧ b < w6.heap.size) w6 ⟨vsegs, .slice none 0 0, .slice none 0 0, .slice none 0 0, .slice none 0 0, .slice none 0 0, .slice none 0 0, .slice none 0 0, .slice none 0 0, .slice none 0 0, .slice none 0 0⟩ ⟨name, flags, segs, [], [], [], [], [], 0, [], [], [], [], [], 0⟩ :=
    { hM6 with
      segs := hPl.imp (fun b hb => ⟨by have := hb.1; omega, hb.2⟩)
      segsR := fun s hs => ⟨okN_int64 (hK s hs).1, okN_int64 (hK s hs).2.1, okN_int64 (hK s hs).2.2.1⟩ }
  clear hPl hK hc hmsegs
  clear hM hM6 hT hZ hB hX hL
  replace hib5 : ib < w6.heap.size := by omega
  replace hBle : B ≤ w6.heap.size := by omega
  clear hz6
  have hM := hM7
  have hZ := hZ6
  have hB := hB6
  have hX := hX6
  have hL := hL6
  clear hM7 hZ6 hB6 hX6 hL6
  obtain ⟨w5, hw5⟩ : ∃ x : World, x = w6 := ⟨_, rfl⟩
  subst hw5
  have e0 : dRest Try.f15 5 = .seq (dCode Try.f15 5) (dRest Try.f15 6) := d_seq _ 5 (by kernel_rfl)
  rw [e0]
  clear e0
  refine wp_seq (dloop2 ?_ (z := w.heap.size) hF hL hX hir hil hig hne hng hib5 ?_)
  · exact fun x a a' w e h => hP x a a' w e h
  intro a w6 m5 needs u1 u2 vneeds hF hGnneeds hmneeds hc hGneeds hK hL6 hX6 hT hPl
  show Code.wp _ (dRest Try.f15 6) _ a w6
  have hZ6 : w6.heap[w.heap.size]? = _ := (hT.block w.heap.size ⟨by omega, by omega, by omega, by omega⟩).trans hZ
  have hB6 : Below w.heap.size w w6 := ((Step.of_below hB).trans (hT.imp (fun x hx => ⟨by omega, by omega, by omega, by omega⟩))).below
  have hz6 := hT.size
  have hM6 := hM.move hT hrB hlB hiB
  have hM7 : ImgM (fun b => B ≤ b ∧ b < w6.heap.size) w6 ⟨vsegs, vneeds, .slice none 0 0, .slice none 0 0, .slice none 0 0, .slice none 0 0, .slice none 0 0, .slice none 0 0, .slice none 0 0, .slice none 0 0, .slice none 0 0⟩ ⟨name, flags, segs, needs, [], [], [], [], 0, [], [], [], [], [], 0⟩ :=
    { hM6 with
      needed := hPl.imp (fun b hb => ⟨by have := hb.1; omega, hb.2⟩) }
  clear hPl hK hc hmneeds
  clear hM hM6 hT hZ hB hX hL
  replace hib5 : ib < w6.heap.size := by omega
  replace hBle : B ≤ w6.heap.size := by omega
  clear hz6
  have hM := hM7
  have hZ := hZ6
  have hB := hB6
  have hX := hX6
  have hL := hL6
  clear hM7 hZ6 hB6 hX6 hL6
  obtain ⟨w5, hw5⟩ : ∃ x : World, x = w6 := ⟨_, rfl⟩
  subst hw5
  have e0 : dRest Try.f15 6 = .seq (dCode Try.f15 6) (dRest Try.f15 7) := d_seq _ 6 (by kernel_rfl)
  rw [e0]
  clear e0
  refine wp_seq (dlist6 ?_ (z := w.heap.size) hF hL hX hir hil hig hne hng hib5 ?_)
  · exact fun x a a' w e h => hP x a a' w e h
  intro a w6 m6 runPath u1 u2 vrunPath hF hGnrunPath hmrunPath hc hGrunPath hK hL6 hX6 hT hPl
  show Code.wp _ (dRest Try.f15 7) _ a w6
  have hZ6 : w6.heap[w.heap.size]? = _ := (hT.block w.heap.size ⟨by omega, by omega, by omega, by omega⟩).trans hZ
  have hB6 : Below w.heap.size w w6 := ((Step.of_below hB).trans (hT.imp (fun x hx => ⟨by omega, by omega, by omega, by omega⟩))).below
  have hz6 := hT.size
  have hM6 := hM.move hT hrB hlB hiB
  have hM7 : ImgM (fun b => B ≤ b ∧ b < w6.heap.size) w6 ⟨vsegs, vneeds, vrunPath, .slice none 0 0, .slice none 0 0, .slice none 0 0, .slice none 0 0, .slice none 0 0, .slice none 0 0, .slice none 0 0, .slice none 0 0⟩ ⟨name, flags, segs, needs, runPath, [], [], [], 0, [], [], [], [], [], 0⟩ :=
    { hM6 with
      runPath := hPl.imp (fun b hb => ⟨by have := hb.1; omega, hb.2⟩) }
  clear hPl hK hc hmrunPath
  clear hM hM6 hT hZ hB hX hL
  replace hib5 : ib < w6.heap.size := by omega
  replace hBle : B ≤ w6.heap.size := by omega
  clear hz6
  have hM := hM7
  have hZ := hZ6
  have hB := hB6
  have hX := hX6
  have hL := hL6
  clear hM7 hZ6 hB6 hX6 hL6
  obtain ⟨w5, hw5⟩ : ∃ x : World, x = w6 := ⟨_, rfl⟩
  subst hw5
  have e0 : dRest Try.f15 7 = .seq (dCode Try.f15 7) (dRest Try.f15 8) := d_seq _ 7 (by kernel_rfl)
  rw [e0]
  clear e0
  refine wp_seq (dloop3 ?_ (z := w.heap.size) hF hL hX hir hil hig hne hng hib5 ?_)
  · exact fun x a a' w e h => hP x a a' w e h
  intro a w6 m7 syms u1 u2 vsyms hF hGnsyms hmsyms hc hGsyms hK hL6 hX6 hT hPl
  show Code.wp _ (dRest Try.f15 8) _ a w6
  have hZ6 : w6.heap[w.heap.size]? = _ := (hT.block w.heap.size ⟨by omega, by omega, by omega, by omega⟩).trans hZ
  have hB6 : Below w.heap.size w w6 := ((Step.of_below hB).trans (hT.imp (fun x hx => ⟨by omega, by omega, by omega, by omega⟩))).below
  have hz6 := hT.size
  have hM6 := hM.move hT hrB hlB hiB
  have hM7 : ImgM (fun b => B ≤ b ∧ b < w6.heap.size) w6 ⟨vsegs, vneeds, vrunPath, vsyms, .slice none 0 0, .slice none 0 0, .slice none 0 0, .slice none 0 0, .slice none 0 0, .slice none 0 0, .slice none 0 0⟩ ⟨name, flags, segs, needs, runPath, syms, [], [], 0, [], [], [], [], [], 0⟩ :=
    { hM6 with
      syms := hPl.imp (fun b hb => ⟨by have := hb.1; omega, hb.2⟩) }
  clear hPl hK hc hmsyms
  clear hM hM6 hT hZ hB hX hL
  replace hib5 : ib < w6.heap.size := by omega
  replace hBle : B ≤ w6.heap.size := by omega
  clear hz6
  have hM := hM7
  have hZ := hZ6
  have hB := hB6
  have hX := hX6
  have hL := hL6
  clear hM7 hZ6 hB6 hX6 hL6
  obtain ⟨w5, hw5⟩ : ∃ x : World, x = w6 := ⟨_, rfl⟩
  subst hw5
  have e0 : dRest Try.f15 8 = .seq (dCode Try.f15 8) (dRest Try.f15 9) := d_seq _ 8 (by kernel_rfl)
  rw [e0]
  clear e0
  refine wp_seq (dloop4 ?_ (z := w.heap.size) hF hL hX hir hil hig hne hng hib5 ?_)
  · exact fun x a a' w e h => hP x a a' w e h
  intro a w6 m8 buckets u1 u2 vbuckets hF hGnbuckets hmbuckets hc hGbuckets hK hL6 hX6 hT hPl
  show Code.wp _ (dRest Try.f15 9) _ a w6
  have hZ6 : w6.heap[w.heap.size]? = _ := (hT.block w.heap.size ⟨by omega, by omega, by omega, by omega⟩).trans hZ
  have hB6 : Below w.heap.size w w6 := ((Step.of_below hB).trans (hT.imp (fun x hx => ⟨by omega, by omega, by omega, by omega⟩))).below
  have hz6 := hT.size
  have hM6 := hM.move hT hrB hlB hiB
  have hM7 : ImgM (fun b => B ≤ b ∧ b < w6.heap.size) w6 ⟨vsegs, vneeds, vrunPath, vsyms, vbuckets, .slice none 0 0, .slice none 0 0, .slice none 0 0, .slice none 0 0, .slice none 0 0, .slice none 0 0⟩ ⟨name, flags, segs, needs, runPath, syms, buckets, [], 0, [], [], [], [], [], 0⟩ :=
    { hM6 with
      buckets := hPl.imp (fun b hb => ⟨by have := hb.1; omega, hb.2⟩)
      bucketsL := fun c hc => by
        have h : c.length < 65536 := (hK c hc).1
        omega }
  clear hPl hK hc hmbuckets
  clear hM hM6 hT hZ hB hX hL
  replace hib5 : ib < w6.heap.size := by omega
  replace hBle : B ≤ w6.heap.size := by omega
  clear hz6
  have hM := hM7
  have hZ := hZ6
  have hB := hB6
  have hX := hX6
  have hL := hL6
  clear hM7 hZ6 hB6 hX6 hL6
  obtain ⟨w5, hw5⟩ : ∃ x : World, x = w6 := ⟨_, rfl⟩
  subst hw5
  have e0 : dRest Try.f15 9 = .seq (dCode Try.f15 9) (dRest Try.f15 10) := d_seq _ 9 (by kernel_rfl)
  rw [e0]
  clear e0
  refine wp_seq (dshift ?_ (z := w.heap.size) hF hL hX hir hil hig hne hng hib5 ?_)
  · exact fun x a a' w e h => hP x a a' w e h
  intro a w6 shift u2 hF hGshift hKshift hL6 hX6 hT
  show Code.wp _ (dRest Try.f15 10) _ a w6
  have hZ6 : w6.heap[w.heap.size]? = _ := (hT.block w.heap.size ⟨by omega, by omega, by omega, by omega⟩).trans hZ
  have hB6 : Below w.heap.size w w6 := ((Step.of_below hB).trans (hT.imp (fun x hx => ⟨by omega, by omega, by omega, by omega⟩))).below
  have hz6 := hT.size
  have hM6 := hM.move hT hrB hlB hiB
  have hM7 : ImgM (fun b => B ≤ b ∧ b < w6.heap.size) w6 ⟨vsegs, vneeds, vrunPath, vsyms, vbuckets, .slice none 0 0, .slice none 0 0, .slice none 0 0, .slice none 0 0, .slice none 0 0, .slice none 0 0⟩ ⟨name, flags, segs, needs, runPath, syms, buckets, [], shift, [], [], [], [], [], 0⟩ := { hM6 with shift := okN_int64 hKshift }
  clear hM hM6 hT hZ hB hX hL
  replace hib5 : ib < w6.heap.size := by omega
  replace hBle : B ≤ w6.heap.size := by omega
  clear hz6
  have hM := hM7
  have hZ := hZ6
  have hB := hB6
  have hX := hX6
  have hL := hL6
  clear hM7 hZ6 hB6 hX6 hL6
  obtain ⟨w5, hw5⟩ : ∃ x : World, x = w6 := ⟨_, rfl⟩
  subst hw5
  have e0 : dRest Try.f15 10 = .seq (dCode Try.f15 10) (dRest Try.f15 11) := d_seq _ 10 (by kernel_rfl)
  rw [e0]
  clear e0
  refine wp_seq (dloop5 ?_ (z := w.heap.size) hF hL hX hir hil hig hne hng hib5 ?_)
  · exact fun x a a' w e h => hP x a a' w e h
  intro a w6 m10 words u1 u2 vwords hF hGnwords hmwords hc hGwords hK hL6 hX6 hT hPl
  show Code.wp _ (dRest Try.f15 11) _ a w6
  have hZ6 : w6.heap[w.heap.size]? = _ := (hT.block w.heap.size ⟨by omega, by omega, by omega, by omega⟩).trans hZ
  have hB6 : Below w.heap.size w w6 := ((Step.of_below hB).trans (hT.imp (fun x hx => ⟨by omega, by omega, by omega, by omega⟩))).below
  have hz6 := hT.size
  have hM6 := hM.move hT hrB hlB hiB
  have hM7 : ImgM (fun b => B ≤ b ∧ b < w6.heap.size) w6 ⟨vsegs, vneeds, vrunPath, vsyms, vbuckets, vwords, .slice none 0 0, .slice none 0 0, .slice none 0 0, .slice none 0 0, .slice none 0 0⟩ ⟨name, flags, segs, needs, runPath, syms, buckets, words, shift, [], [], [], [], [], 0⟩ :=
    { hM6 with
      words := hPl.imp (fun b hb => ⟨by have := hb.1; omega, hb.2⟩)
      wordsR := hK }
  clear hPl hK hc hmwords
  clear hM hM6 hT hZ hB hX hL
  replace hib5 : ib < w6.heap.size := by omega
  replace hBle : B ≤ w6.heap.size := by omega
  clear hz6
  have hM := hM7
  have hZ := hZ6
  have hB := hB6
  have hX := hX6
  have hL := hL6
  clear hM7 hZ6 hB6 hX6 hL6
  obtain ⟨w5, hw5⟩ : ∃ x : World, x = w6 := ⟨_, rfl⟩
  subst hw5
  have e0 : dRest Try.f15 11 = .seq (dCode Try.f15 11) (dRest Try.f15 12) := d_seq _ 11 (by kernel_rfl)
  rw [e0]
  clear e0
  refine wp_seq (dloop6 ?_ (z := w.heap.size) hF hL hX hir hil hig hne hng hib5 ?_)
  · exact fun x a a' w e h => hP x a a' w e h
  intro a w6 m11 relocs u1 u2 vrelocs hF hGnrelocs hmrelocs hc hGrelocs hK hL6 hX6 hT hPl
  show Code.wp _ (dRest Try.f15 12) _ a w6
  have hZ6 : w6.heap[w.heap.size]? = _ := (hT.block w.heap.size ⟨by omega, by omega, by omega, by omega⟩).trans hZ
  have hB6 : Below w.heap.size w w6 := ((Step.of_below hB).trans (hT.imp (fun x hx => ⟨by omega, by omega, by omega, by omega⟩))).below
  have hz6 := hT.size
  have hM6 := hM.move hT hrB hlB hiB
  have hM7 : ImgM (fun b => B ≤ b ∧ b < w6.heap.size) w6 ⟨vsegs, vneeds, vrunPath, vsyms, vbuckets, vwords, vrelocs, .slice none 0 0, .slice none 0 0, .slice none 0 0, .slice none 0 0⟩ ⟨name, flags, segs, needs, runPath, syms, buckets, words, shift, relocs, [], [], [], [], 0⟩ :=
    { hM6 with
      relocs := hPl.imp (fun b hb => ⟨by have := hb.1; omega, hb.2⟩)
      relocsR := fun r hr => ⟨okN_int64 (hK r hr).2.2.1, okN_int64 (hK r hr).2.1, okN_int64 (hK r hr).2.2.2⟩ }
  clear hPl hK hc hmrelocs
  clear hM hM6 hT hZ hB hX hL
  replace hib5 : ib < w6.heap.size := by omega
  replace hBle : B ≤ w6.heap.size := by omega
  clear hz6
  have hM := hM7
  have hZ := hZ6
  have hB := hB6
  have hX := hX6
  have hL := hL6
  clear hM7 hZ6 hB6 hX6 hL6
  obtain ⟨w5, hw5⟩ : ∃ x : World, x = w6 := ⟨_, rfl⟩
  subst hw5
  have e0 : dRest Try.f15 12 = .seq (dCode Try.f15 12) (dRest Try.f15 13) := d_seq _ 12 (by kernel_rfl)
  rw [e0]
  clear e0
  refine wp_seq (dloop7 ?_ (z := w.heap.size) hF hL hX hir hil hig hne hng hib5 ?_)
  · exact fun x a a' w e h => hP x a a' w e h
  intro a w6 m12 slots u1 u2 vslots hF hGnslots hmslots hc hGslots hK hL6 hX6 hT hPl
  show Code.wp _ (dRest Try.f15 13) _ a w6
  have hZ6 : w6.heap[w.heap.size]? = _ := (hT.block w.heap.size ⟨by omega, by omega, by omega, by omega⟩).trans hZ
  have hB6 : Below w.heap.size w w6 := ((Step.of_below hB).trans (hT.imp (fun x hx => ⟨by omega, by omega, by omega, by omega⟩))).below
  have hz6 := hT.size
  have hM6 := hM.move hT hrB hlB hiB
  have hM7 : ImgM (fun b => B ≤ b ∧ b < w6.heap.size) w6 ⟨vsegs, vneeds, vrunPath, vsyms, vbuckets, vwords, vrelocs, vslots, .slice none 0 0, .slice none 0 0, .slice none 0 0⟩ ⟨name, flags, segs, needs, runPath, syms, buckets, words, shift, relocs, slots, [], [], [], 0⟩ :=
    { hM6 with
      slots := hPl.imp (fun b hb => ⟨by have := hb.1; omega, hb.2⟩)
      slotsR := fun r hr => ⟨okN_int64 (hK r hr).2.1, okN_int64 (hK r hr).1, okN_int64 (hK r hr).2.2⟩ }
  clear hPl hK hc hmslots
  clear hM hM6 hT hZ hB hX hL
  replace hib5 : ib < w6.heap.size := by omega
  replace hBle : B ≤ w6.heap.size := by omega
  clear hz6
  have hM := hM7
  have hZ := hZ6
  have hB := hB6
  have hX := hX6
  have hL := hL6
  clear hM7 hZ6 hB6 hX6 hL6
  obtain ⟨w5, hw5⟩ : ∃ x : World, x = w6 := ⟨_, rfl⟩
  subst hw5
  have e0 : dRest Try.f15 13 = .seq (dCode Try.f15 13) (dRest Try.f15 14) := d_seq _ 13 (by kernel_rfl)
  rw [e0]
  clear e0
  refine wp_seq (dlist13 ?_ (z := w.heap.size) hF hL hX hir hil hig hne hng hib5 ?_)
  · exact fun x a a' w e h => hP x a a' w e h
  intro a w6 m13 init u1 u2 vinit hF hGninit hminit hc hGinit hK hL6 hX6 hT hPl
  show Code.wp _ (dRest Try.f15 14) _ a w6
  have hZ6 : w6.heap[w.heap.size]? = _ := (hT.block w.heap.size ⟨by omega, by omega, by omega, by omega⟩).trans hZ
  have hB6 : Below w.heap.size w w6 := ((Step.of_below hB).trans (hT.imp (fun x hx => ⟨by omega, by omega, by omega, by omega⟩))).below
  have hz6 := hT.size
  have hM6 := hM.move hT hrB hlB hiB
  have hM7 : ImgM (fun b => B ≤ b ∧ b < w6.heap.size) w6 ⟨vsegs, vneeds, vrunPath, vsyms, vbuckets, vwords, vrelocs, vslots, vinit, .slice none 0 0, .slice none 0 0⟩ ⟨name, flags, segs, needs, runPath, syms, buckets, words, shift, relocs, slots, init, [], [], 0⟩ :=
    { hM6 with
      init := hPl.imp (fun b hb => ⟨by have := hb.1; omega, hb.2⟩)
      initR := fun x hx => okN_int64 (hK x hx) }
  clear hPl hK hc hminit
  clear hM hM6 hT hZ hB hX hL
  replace hib5 : ib < w6.heap.size := by omega
  replace hBle : B ≤ w6.heap.size := by omega
  clear hz6
  have hM := hM7
  have hZ := hZ6
  have hB := hB6
  have hX := hX6
  have hL := hL6
  clear hM7 hZ6 hB6 hX6 hL6
  obtain ⟨w5, hw5⟩ : ∃ x : World, x = w6 := ⟨_, rfl⟩
  subst hw5
  have e0 : dRest Try.f15 14 = .seq (dCode Try.f15 14) (dRest Try.f15 15) := d_seq _ 14 (by kernel_rfl)
  rw [e0]
  clear e0
  refine wp_seq (dlist14 ?_ (z := w.heap.size) hF hL hX hir hil hig hne hng hib5 ?_)
  · exact fun x a a' w e h => hP x a a' w e h
  intro a w6 m14 fini u1 u2 vfini hF hGnfini hmfini hc hGfini hK hL6 hX6 hT hPl
  show Code.wp _ (dRest Try.f15 15) _ a w6
  have hZ6 : w6.heap[w.heap.size]? = _ := (hT.block w.heap.size ⟨by omega, by omega, by omega, by omega⟩).trans hZ
  have hB6 : Below w.heap.size w w6 := ((Step.of_below hB).trans (hT.imp (fun x hx => ⟨by omega, by omega, by omega, by omega⟩))).below
  have hz6 := hT.size
  have hM6 := hM.move hT hrB hlB hiB
  have hM7 : ImgM (fun b => B ≤ b ∧ b < w6.heap.size) w6 ⟨vsegs, vneeds, vrunPath, vsyms, vbuckets, vwords, vrelocs, vslots, vinit, vfini, .slice none 0 0⟩ ⟨name, flags, segs, needs, runPath, syms, buckets, words, shift, relocs, slots, init, fini, [], 0⟩ :=
    { hM6 with
      fini := hPl.imp (fun b hb => ⟨by have := hb.1; omega, hb.2⟩)
      finiR := fun x hx => okN_int64 (hK x hx) }
  clear hPl hK hc hmfini
  clear hM hM6 hT hZ hB hX hL
  replace hib5 : ib < w6.heap.size := by omega
  replace hBle : B ≤ w6.heap.size := by omega
  clear hz6
  have hM := hM7
  have hZ := hZ6
  have hB := hB6
  have hX := hX6
  have hL := hL6
  clear hM7 hZ6 hB6 hX6 hL6
  obtain ⟨w5, hw5⟩ : ∃ x : World, x = w6 := ⟨_, rfl⟩
  subst hw5
  exact dend hF hL hX hir hil hig hne hng hib5 hwB hlB hrB hiB hBle (by omega) (by omega) (by omega) (by omega) hZ hB hM (fun x st' h => got_img hG0 ho hst (hG1.bind (hG2.bind (hGnsegs.bind (hGsegs.bind (hGnneeds.bind (hGneeds.bind (hGnrunPath.bind (hGrunPath.bind (hGnsyms.bind (hGsyms.bind (hGnbuckets.bind (hGbuckets.bind (hGshift.bind (hGnwords.bind (hGwords.bind (hGnrelocs.bind (hGrelocs.bind (hGnslots.bind (hGslots.bind (hGninit.bind (hGinit.bind (hGnfini.bind (hGfini.bind h))))))))))))))))))))))))

end Go.Proofs.Ytbliedldlimpgaa

namespace Go.Proofs.Ytbliedldlimpgaa
set_option linter.unusedVariables false
set_option linter.unusedSimpArgs false
open Go.RowKit

theorem info_word1 : (Try.prog.info? 63).map (fun i => (i.zero, i.size, i.bytes)) = some (some (.int .u64 0), 1, 8) := by kernel_rfl
theorem jm_results {P : Program} {fn : Func} {p u : Tmp} {ty : TypeId} (h : fn.results = #[.cell p ty, .tmp u]) (tmps : Array Value) (w : World) (g : Nat) (t : TypeId) (cs : Array Value) (fr : Nat × Nat) (d : TypeDesc)
    (hp : tmps.getD p undef = .pointer (some ⟨g, 0, none⟩)) (hg : w.heap[g]? = some (.cells cs t fr))
    (hu : P.underlying ty = some d) (hd : (match d with | .struct _ | .array _ _ => true | _ => false) = true) (hi : (P.info? ty).map (·.size) = some cs.size) :
    (results fn tmps).run P w = .ok (.tuple #[.agg cs, tmps.getD u undef]) w := by
  rw [results_cell_tmp h, hp]
  simp [asAddr, run_loadVar_row w g t ty cs fr d hg hu hd hi, Result.andThen]
theorem jm_row (w : World) (g : Nat) (cs : Array Value) : Step (fun x => x ≠ g) w (w.setRow g cs) := ⟨rfl, rfl, rfl, by simp, fun b hb => setRow_other _ _ _ _ hb⟩
theorem jm_below {w w1 w2 : World} {o : Obj} (h : Below (w.alloc o).heap.size (w.alloc o) w1) (k : Step (· < w1.heap.size) w1 w2) : Step (· < (w.alloc o).heap.size) (w.alloc o) w2 :=
  (Step.of_below h).trans (k.imp (fun x hx => Nat.lt_of_lt_of_le hx h.size))
theorem word_lb {w : World} {g : Nat} (h : w.cell? ⟨g, 0, none⟩ = some (.int .u64 0)) : LB kWord (· = g) w (.slice (some ⟨g, 0, none⟩) 1 1) [0] := by
  refine ⟨some ⟨g, 0, none⟩, g, 0, 1, rfl, by decide, fun _ => rfl, ⟨Nat.le_refl _, fun h => by cases h⟩, fun _ => rfl, fun i x hx => ?_⟩
  match i, hx with
  | 0, hx =>
    simp at hx; subst hx
    refine ⟨[.int .u64 0], rfl, fun j u hu => ?_⟩
    match j, hu with
    | 0, hu => simp at hu; subst hu; exact h
    | j + 1, hu => simp at hu
  | i + 1, hx => simp at hx
theorem setCell_row1 {w : World} {b k : Nat} {cs : Array Value} {t : TypeId} {fr : Nat × Nat} (u : Value) (h : w.heap[b]? = some (.cells cs t fr)) : (w.setCell ⟨b, k, none⟩ u).heap[b]? = some (.cells (cs.setIfInBounds k u) t fr) := by
  simp [World.setCell, Array.getElem?_modify, h]
theorem info_ints1 : (Try.prog.info? 35).map (fun i => (i.zero, i.size, i.bytes)) = some (some (.slice none 0 0), 1, 24) := by kernel_rfl

set_option maxHeartbeats 4000000 in
set_option maxRecDepth 100000 in
theorem jcount_zero (w : World) : Calls Try.prog 93 #[.int .i64 0] w fun e w' => e = .returned (.int .i64 1) ∧ w' = w := by
  go_enter Try.func93, Try.ntmps93
  go_wp2
  go_ret
  exact ⟨rfl, rfl⟩
set_option maxHeartbeats 4000000 in
set_option maxRecDepth 100000 in
theorem jwords_zero (w : World) : Calls Try.prog 94 #[.int .i64 0] w fun e w' => e = .returned (.int .i64 1) ∧ w' = w := by
  go_enter Try.func94, Try.ntmps94
  go_wp2
  go_loop [3] (fun i => i = .int .i64 1) (fun _ => 0)
  case atStart => rfl
  case round =>
    subst hrel
    go_wp2
    go_ret
    exact ⟨rfl, rfl⟩

set_option maxHeartbeats 8000000 in
set_option maxRecDepth 100000 in
theorem jmake_nil (w : World) : Calls Try.prog 56 #[.slice none 0 0] w fun e w' => ∃ bv wv, e = .returned (.tuple #[.agg #[bv, wv, .int .i64 6], .int .i64 0]) ∧ Below w.heap.size w w' ∧
    LB kInts (fun b => w.heap.size ≤ b ∧ b < w'.heap.size) w' bv [[]] ∧ LB kWord (fun b => w.heap.size ≤ b ∧ b < w'.heap.size) w' wv [0] := by
  have HSeen := Lib.hid (fun w' => jseenl_any w' (.slice none 0 0) [] (LB.nil _ _ _) (by decide))
  go_enter Try.func56, Try.ntmps56
  go_wp2_with fail
  refine (HSeen.out _).mono ?_
  rintro e w1 ⟨r, rfl, hr, hb1⟩
  obtain ⟨ra, rc, rfl⟩ := hr.form
  have e0 : (toInts (seenIx [])).length = 0 := rfl
  rw [e0]
  clear e0 hr HSeen
  go_wp2_with fail
  refine (jcount_zero _).mono ?_
  rintro e _ ⟨rfl, rfl⟩
  go_wp2_with fail
  refine (jwords_zero _).mono ?_
  rintro e _ ⟨rfl, rfl⟩
  obtain ⟨i0, hi, hz0, hz1, hz2⟩ := info_parts info_word1
  rename World => w1
  have hbase := hb1.size
  go_wp2_with (at_make; refine wpList_make_full _ rfl (.tmp 22) (.tmp 22) 28 rfl w1.heap.size 63 i0 _ 1 Try.underlying28 hi hz0 hz1 .i64 .i64 1 1 1 rfl rfl rfl rfl (by rw [hz2]; decide) (by unfold maxLen; decide) (Nat.le_refl _) ?_)
  intro w2 ho2 hg2
  have hlt2 : w1.heap.size < w2.heap.size := (World.ownsRow.lt ho2 _ rfl).2
  have TW : Hid (LB kWord (· = w1.heap.size) w2 (.slice (some ⟨w1.heap.size, 0, none⟩) 1 1) [0]) := Lib.hid (word_lb (World.ownsRow.cells ho2 (g := w1.heap.size) rfl 0 _ (by simp [madeCells, Value.cells])))
  have S2 : Hid (Step (· < w1.heap.size) w1 w2) := Lib.hid (Step.of_grown hg2 (fun b hb => ⟨hb, by simp⟩))
  have HB1 := Lib.hid hb1
  have hz2 := S2.out.size
  clear ho2 hg2 hb1 hi hz0 hz1
  go_upto_region 6 with fail
  have FT := Lib.hid (heap_alloc_new w2 (.cells #[.slice none 0 0, .slice (some ⟨w1.heap.size, 0, none⟩) 1 1, .int .i64 6] 32 (0, 0)))
  have S3 := Lib.hid (S2.out.alloc (fun b hb => by have hb : b < w1.heap.size := hb; omega) (.cells #[.slice none 0 0, .slice (some ⟨w1.heap.size, 0, none⟩) 1 1, .int .i64 6] 32 (0, 0)))
  have TW3 := Lib.hid (TW.out.keeps (fun b hb => heap_alloc_old w2 (.cells #[.slice none 0 0, .slice (some ⟨w1.heap.size, 0, none⟩) 1 1, .int .i64 6] 32 (0, 0)) (by have hb : b = w1.heap.size := hb; omega)))
  have hz3 : (w2.alloc (.cells #[.slice none 0 0, .slice (some ⟨w1.heap.size, 0, none⟩) 1 1, .int .i64 6] 32 (0, 0))).heap.size = w2.heap.size + 1 := by simp
  have hz3' : w2.heap.size < (w2.alloc (.cells #[.slice none 0 0, .slice (some ⟨w1.heap.size, 0, none⟩) 1 1, .int .i64 6] 32 (0, 0))).heap.size := by omega
  clear hz3 S2 TW
  generalize w2.alloc (.cells #[.slice none 0 0, .slice (some ⟨w1.heap.size, 0, none⟩) 1 1, .int .i64 6] 32 (0, 0)) = w3 at FT S3 TW3 hz3' ⊢
  generalize w2.heap.size = tb at *
  go_wp2_with fail
  go_loopw [7, 8, 9] (fun b ch k wr => ∃ n : Nat, b = .int .i64 n ∧ n ≤ 1 ∧ ∃ bv, wr.heap[tb]? = some (.cells #[bv, .slice (some ⟨w1.heap.size, 0, none⟩) 1 1, .int .i64 6] 32 (0, 0)) ∧ OwnK 35 kInts w3.heap.size (· < w3.heap.size) wr bv (List.replicate n []) ∧ Step (fun x => x < w3.heap.size ∧ x ≠ tb) w3 wr) (fun b _ _ _ => 1 - (intOf b).toNat)
  case atStart => exact ⟨0, rfl, by omega, _, FT.out, OwnK.nil _ _ _ _ _, Step.refl _ _⟩
  case round =>
    obtain ⟨n, rfl, hn, bv, hf, ho, hs⟩ := hrel
    obtain ⟨oa, oc, rfl⟩ := ho.form
    rw [List.length_replicate] at ho hf
    have HF := Lib.hid hf
    have HO := Lib.hid ho
    have HS := Lib.hid hs
    have hzr := hs.size
    clear hf ho hs
    by_cases hlt : n < 1
    · obtain rfl : n = 0 := by omega
      have cI : wr.cell? ⟨tb, 0, none⟩ = some (.slice oa 0 oc) := by rw [Lib.cell_of_heap HF.out]; rfl
      have htb : tb < wr.heap.size := by omega
      go_wp2_with fail
      go_loop [8, 9] (fun ch i => ch = .slice none 0 0 ∧ i = .int .i64 0) (fun _ _ => 0)
      case atStart => exact ⟨rfl, rfl⟩
      case round =>
        obtain ⟨rfl, rfl⟩ := hrel
        have OA := Lib.hid (HO.out.alloc (.cells #[.slice none 0 0] 35 (0, 0)))
        have NA := Lib.hid (heap_alloc_new wr (.cells #[.slice none 0 0] 35 (0, 0)))
        have XA := Lib.hid ((heap_alloc_old wr (.cells #[.slice none 0 0] 35 (0, 0)) htb).trans HF.out)
        have HA := Lib.hid (HS.out.alloc (fun b hb => by have := hb.1; omega) (.cells #[.slice none 0 0] 35 (0, 0)))
        have hza : wr.heap.size < (wr.alloc (.cells #[.slice none 0 0] 35 (0, 0))).heap.size := by simp
        go_wp2_with (at_builtin; refine wpList_appendK (K := kInts) (v := .slice oa 0 oc) (e := 35) (B := w3.heap.size) (E := (· < w3.heap.size)) 27 (.slice none 0 0) 24 Try.underlying27 info_ints1 rfl (by decide) rfl (.tmp 57) (.tmp 59) rfl 0 (by rfl) rfl OA.out (fun b hb => by have hb : b < w3.heap.size := hb; omega) wr.heap.size ([] : List Int) [.slice none 0 0] rfl (row_one _ _ _ ((Lib.cell_of_heap NA.out 0).trans rfl)) (fun u hu => by simp at hu; subst hu; rfl) ⟨_, rfl, LB.nil _ _ _⟩ (by decide) (by decide) (by omega) ?_)
        intro g c w9 ho9 hs9 hg9
        have hno := OA.out.notE
        have S9 : Step (fun x => x < w3.heap.size) (wr.alloc (.cells #[.slice none 0 0] 35 (0, 0))) w9 := hs9.imp (fun x hx => ⟨by have hx : x < w3.heap.size := hx; omega, fun e => hno x e hx⟩)
        have X9 := Lib.hid ((S9.block tb hz3').trans XA.out)
        have cI : w9.cell? ⟨tb, 0, none⟩ = some (.slice oa 0 oc) := by rw [Lib.cell_of_heap X9.out]; rfl
        have fI : w9.frozen? ⟨tb, 0, none⟩ = false := Lib.frozen_of_heap X9.out 0
        have Hfin := Lib.hid (ho9.step (setCell_step w9 tb 0 (.slice (some ⟨g, 0, none⟩) (0 + 1) c)) (fun b _ hb e => hb (by rw [e]; exact hz3')))
        have X10 := Lib.hid (setCell_row1 (k := 0) (.slice (some ⟨g, 0, none⟩) (0 + 1) c) X9.out)
        have S10 := Lib.hid ((HA.out.trans (S9.imp (fun x hx => hx.1))).trans ((setCell_step w9 tb 0 (.slice (some ⟨g, 0, none⟩) (0 + 1) c)).imp (fun x hx => hx.2)))
        clear ho9 hs9 hg9 S9 hno
        go_wp2_with fail
        go_roundw
        case rel => exact ⟨1, by go_num, by omega, _, X10.out, Hfin.out, S10.out⟩
        case measure => simp [intOf]
    · obtain rfl : n = 1 := by omega
      have SA : Hid (Step (· < (w.alloc (.cells #[.slice none 0 0, .slice none 0 0, .int .i64 0] 32 (0, 0))).heap.size) (w.alloc (.cells #[.slice none 0 0, .slice none 0 0, .int .i64 0] 32 (0, 0))) wr) := Lib.hid ((jm_below HB1.out S3.out).trans (HS.out.imp (fun x hx => by have hx : x < (w.alloc (.cells #[.slice none 0 0, .slice none 0 0, .int .i64 0] 32 (0, 0))).heap.size := hx; have := S3.out.size; exact ⟨by omega, by show x ≠ tb; omega⟩)))
      have hw0 : (w.alloc (.cells #[.slice none 0 0, .slice none 0 0, .int .i64 0] 32 (0, 0))).heap.size = w.heap.size + 1 := by simp
      have FM := Lib.hid ((SA.out.block w.heap.size (by show _ < _; rw [hw0]; omega)).trans (heap_alloc_new w (.cells #[.slice none 0 0, .slice none 0 0, .int .i64 0] 32 (0, 0))))
      have hwb : w.heap.size < w1.heap.size := by omega
      have LBb : Hid (LB kInts (fun b => w.heap.size < b ∧ b < wr.heap.size) wr (.slice oa 1 oc) [[]]) := Lib.hid (HO.out.lb.imp (fun b hb => ⟨by have := hb.2; have := S3.out.size; omega, hb.1⟩))
      have LBw : Hid (LB kWord (fun b => w.heap.size < b ∧ b < wr.heap.size) wr (.slice (some ⟨w1.heap.size, 0, none⟩) 1 1) [0]) := Lib.hid ((TW3.out.keeps (fun b hb => HS.out.block b ⟨by have hb : b = w1.heap.size := hb; omega, by have hb : b = w1.heap.size := hb; omega⟩)).imp (fun b hb => ⟨by have hb : b = w1.heap.size := hb; omega, by have hb : b = w1.heap.size := hb; omega⟩))
      clear HO TW3 HS
      go_wp2_with fail
      go_loop [10] (fun i => i = .int .i64 0) (fun _ => 0)
      case atStart => rfl
      case round =>
        subst hrel
        go_wp2_with (first | refine wpList_load_row rfl 32 (.tmp 6) rfl tb rfl _ _ _ _ HF.out Try.underlying32 rfl (by kernel_rfl) ?_ | refine wpList_store_row rfl 32 (.tmp 2) (.tmp 82) rfl w.heap.size #[.slice oa 1 oc, .slice (some ⟨w1.heap.size, 0, none⟩) 1 1, .int .i64 6] rfl rfl _ _ FM.out (by kernel_rfl) rfl (by simp [Value.oneCell']) ?_)
        go_wp2_with (first | refine wpList_load_row rfl 32 (.tmp 6) rfl tb rfl _ _ _ _ HF.out Try.underlying32 rfl (by kernel_rfl) ?_ | refine wpList_store_row rfl 32 (.tmp 2) (.tmp 82) rfl w.heap.size #[.slice oa 1 oc, .slice (some ⟨w1.heap.size, 0, none⟩) 1 1, .int .i64 6] rfl rfl _ _ FM.out (by kernel_rfl) rfl (by simp [Value.oneCell']) ?_)
        go_wp2_with fail
        have FR := Lib.hid (setRow_heap _ w.heap.size _ #[.slice oa 1 oc, .slice (some ⟨w1.heap.size, 0, none⟩) 1 1, .int .i64 6] _ _ FM.out)
        refine bodyPost_ret (jm_results rfl _ _ w.heap.size _ _ _ _ rfl FR.out Try.underlying32 rfl (by kernel_rfl)) rfl ?_
        refine ⟨.slice oa 1 oc, .slice (some ⟨w1.heap.size, 0, none⟩) 1 1, rfl, ?_, ?_, ?_⟩
        · exact (((Step.of_below ((Below.refl w.heap.size w).alloc (Nat.le_refl _) _)).trans (SA.out.imp (fun x hx => by have hx : x < w.heap.size := hx; show _ < _; rw [hw0]; omega))).trans ((jm_row wr w.heap.size #[.slice oa 1 oc, .slice (some ⟨w1.heap.size, 0, none⟩) 1 1, .int .i64 6]).imp (fun x hx => Nat.ne_of_lt hx))).below
        · exact (LBb.out.keeps (fun b hb => setRow_other _ _ _ _ (Nat.ne_of_gt hb.1))).imp (fun b hb => ⟨by have := hb.1; omega, by have := hb.2; simpa using this⟩)
        · exact (LBw.out.keeps (fun b hb => setRow_other _ _ _ _ (Nat.ne_of_gt hb.1))).imp (fun b hb => ⟨by have := hb.1; omega, by have := hb.2; simpa using this⟩)

end Go.Proofs.Ytbliedldlimpgaa

namespace Go.Proofs.Ytbliedldlimpgaa
set_option linter.unusedVariables false
set_option linter.unusedSimpArgs false
open Go.RowKit

/-- the image of the document's example -/
def leastL : ImgL := ⟨[], 0, [⟨0, 1, [], 5⟩], [], [], [], [[]], [0], 6, [], [], [], [], [], 0⟩
def leastV (s b c : Value) : ImgV := ⟨s, .slice none 0 0, .slice none 0 0, .slice none 0 0, b, c, .slice none 0 0, .slice none 0 0, .slice none 0 0, .slice none 0 0, .slice none 0 0⟩
theorem may_least : mayL leastL = 0 := by kernel_rfl
theorem may_rel : mayL { leastL with relocs := [⟨0, 1, -1, 0⟩] } = 94 := by kernel_rfl
theorem may_empty : mayL ⟨[], 0, [], [], [], [], [], [], 0, [], [], [], [], [], 0⟩ = 91 := by kernel_rfl

theorem seg_lb {w : World} {B g : Nat} (h1 : g < w.heap.size) (h0 : B ≤ g) (h : w.heap[g]? = some (.cells #[.int .i64 0, .int .i64 1, .slice none 0 0, .int .i64 5] 72 (0, 0))) :
    LB kSeg (fun b => B ≤ b ∧ b < w.heap.size) w (.slice (some ⟨g, 0, none⟩) 1 1) [⟨0, 1, [], 5⟩] := by
  refine ⟨some ⟨g, 0, none⟩, g, 0, 1, rfl, by decide, fun _ => rfl, ⟨Nat.le_refl _, fun h => by cases h⟩, fun _ => ⟨h0, h1⟩, fun i x hx => ?_⟩
  match i, hx with
  | 0, hx =>
    simp at hx; subst hx
    refine ⟨[.int .i64 0, .int .i64 1, .slice none 0 0, .int .i64 5], ⟨_, rfl, LB.nil _ _ _⟩, fun j u hu => ?_⟩
    rw [Lib.cell_of_heap h]
    simpa using hu
  | i + 1, hx => simp at hx

set_option maxHeartbeats 8000000 in
set_option maxRecDepth 100000 in
theorem ileast_any (w : World) : Calls Try.prog 19 #[] w fun e w' => ∃ s b c, e = .returned (.agg (imgCells (leastV s b c) leastL)) ∧ Below w.heap.size w w' ∧ ImgM (fun b => w.heap.size ≤ b ∧ b < w'.heap.size) w' (leastV s b c) leastL := by
  go_enter Try.func19, Try.ntmps19
  go_wp2_with fail
  refine (jmake_nil _).mono ?_
  rintro e w1 ⟨bv, wv, rfl, hb, hlb, hlw⟩
  obtain ⟨ba, bc, rfl⟩ := hlb.form
  obtain ⟨wa, wc, rfl⟩ := hlw.form
  simp only [List.length_cons, List.length_nil, Nat.zero_add] at *
  have HB := Lib.hid hb
  have HLb := Lib.hid hlb
  have HLw := Lib.hid hlw
  clear hb hlb hlw
  have hz0 := HB.out.size
  rw [World.size_alloc] at hz0
  have B1 : Hid (Below w.heap.size w (w1.alloc (.cells #[.slice ba 1 bc, .slice wa 1 wc, .int .i64 6] 32 (0, 0)))) := Lib.hid ((((Below.refl w.heap.size w).alloc (Nat.le_refl _) _).trans (HB.out.mono (by rw [World.size_alloc]; omega))).alloc (by omega) _)
  have FM := Lib.hid ((heap_alloc_old w1 (.cells #[.slice ba 1 bc, .slice wa 1 wc, .int .i64 6] 32 (0, 0)) (r := w.heap.size) (by omega)).trans ((HB.out.block w.heap.size (by rw [World.size_alloc]; omega)).trans (heap_alloc_new w (.cells #[.string ⟨#[]⟩, .int .i64 0, .slice none 0 0, .slice none 0 0, .slice none 0 0, .slice none 0 0, .slice none 0 0, .slice none 0 0, .int .i64 0, .slice none 0 0, .slice none 0 0, .slice none 0 0, .slice none 0 0, .slice none 0 0, .int .i64 0] 38 (0, 0)))))
  have FT := Lib.hid (heap_alloc_new w1 (.cells #[.slice ba 1 bc, .slice wa 1 wc, .int .i64 6] 32 (0, 0)))
  have Lb := Lib.hid ((HLb.out.keeps (fun b hb => heap_alloc_old w1 (.cells #[.slice ba 1 bc, .slice wa 1 wc, .int .i64 6] 32 (0, 0)) hb.2)).imp (S' := fun b => w.heap.size < b ∧ b < (w1.alloc (.cells #[.slice ba 1 bc, .slice wa 1 wc, .int .i64 6] 32 (0, 0))).heap.size) (fun b hb => ⟨by have := hb.1; rw [World.size_alloc] at this; omega, by have := hb.2; rw [World.size_alloc]; omega⟩))
  have Lw := Lib.hid ((HLw.out.keeps (fun b hb => heap_alloc_old w1 (.cells #[.slice ba 1 bc, .slice wa 1 wc, .int .i64 6] 32 (0, 0)) hb.2)).imp (S' := fun b => w.heap.size < b ∧ b < (w1.alloc (.cells #[.slice ba 1 bc, .slice wa 1 wc, .int .i64 6] 32 (0, 0))).heap.size) (fun b hb => ⟨by have := hb.1; rw [World.size_alloc] at this; omega, by have := hb.2; rw [World.size_alloc]; omega⟩))
  have hz1 : w1.heap.size < (w1.alloc (.cells #[.slice ba 1 bc, .slice wa 1 wc, .int .i64 6] 32 (0, 0))).heap.size := by simp
  clear HB HLb HLw
  go_upto_region 2 with fail
  generalize w1.alloc (.cells #[.slice ba 1 bc, .slice wa 1 wc, .int .i64 6] 32 (0, 0)) = w2 at *
  generalize w1.heap.size = tb at *
  have FT2 := Lib.hid ((heap_alloc_old w2 (.cells #[.int .i64 0, .int .i64 1, .slice none 0 0, .int .i64 5] 72 (0, 0)) hz1).trans FT.out)
  have FM2 := Lib.hid ((heap_alloc_old w2 (.cells #[.int .i64 0, .int .i64 1, .slice none 0 0, .int .i64 5] 72 (0, 0)) (r := w.heap.size) (by omega)).trans FM.out)
  have FS := Lib.hid (heap_alloc_new w2 (.cells #[.int .i64 0, .int .i64 1, .slice none 0 0, .int .i64 5] 72 (0, 0)))
  have B2 := Lib.hid (B1.out.alloc (by omega) (.cells #[.int .i64 0, .int .i64 1, .slice none 0 0, .int .i64 5] 72 (0, 0)))
  have Lb2 := Lib.hid (Lb.out.keeps (fun b hb => heap_alloc_old w2 (.cells #[.int .i64 0, .int .i64 1, .slice none 0 0, .int .i64 5] 72 (0, 0)) hb.2))
  have Lw2 := Lib.hid (Lw.out.keeps (fun b hb => heap_alloc_old w2 (.cells #[.int .i64 0, .int .i64 1, .slice none 0 0, .int .i64 5] 72 (0, 0)) hb.2))
  have hz2 : w2.heap.size < (w2.alloc (.cells #[.int .i64 0, .int .i64 1, .slice none 0 0, .int .i64 5] 72 (0, 0))).heap.size := by simp
  have hz2' := hz2
  clear FT FM B1 Lb Lw
  go_wp2_with (first | refine wpList_load_row rfl 32 (.tmp 1) rfl tb rfl _ _ _ _ FT2.out Try.underlying32 rfl (by kernel_rfl) ?_ | refine wpList_store_row rfl 38 (.tmp 0) (.tmp 10) rfl w.heap.size #[.string ⟨#[]⟩, .int .i64 0, .slice (some ⟨w2.heap.size, 0, none⟩) 1 1, .slice none 0 0, .slice none 0 0, .slice none 0 0, .slice ba 1 bc, .slice wa 1 wc, .int .i64 6, .slice none 0 0, .slice none 0 0, .slice none 0 0, .slice none 0 0, .slice none 0 0, .int .i64 0] rfl rfl _ _ FM2.out (by kernel_rfl) rfl (by simp [Value.oneCell']) ?_)
  go_wp2_with (first | refine wpList_load_row rfl 32 (.tmp 1) rfl tb rfl _ _ _ _ FT2.out Try.underlying32 rfl (by kernel_rfl) ?_ | refine wpList_store_row rfl 38 (.tmp 0) (.tmp 10) rfl w.heap.size #[.string ⟨#[]⟩, .int .i64 0, .slice (some ⟨w2.heap.size, 0, none⟩) 1 1, .slice none 0 0, .slice none 0 0, .slice none 0 0, .slice ba 1 bc, .slice wa 1 wc, .int .i64 6, .slice none 0 0, .slice none 0 0, .slice none 0 0, .slice none 0 0, .slice none 0 0, .int .i64 0] rfl rfl _ _ FM2.out (by kernel_rfl) rfl (by simp [Value.oneCell']) ?_)
  go_wp2_with fail
  generalize w2.alloc (.cells #[.int .i64 0, .int .i64 1, .slice none 0 0, .int .i64 5] 72 (0, 0)) = w3 at *
  have FR := Lib.hid (setRow_heap _ w.heap.size _ #[.string ⟨#[]⟩, .int .i64 0, .slice (some ⟨w2.heap.size, 0, none⟩) 1 1, .slice none 0 0, .slice none 0 0, .slice none 0 0, .slice ba 1 bc, .slice wa 1 wc, .int .i64 6, .slice none 0 0, .slice none 0 0, .slice none 0 0, .slice none 0 0, .slice none 0 0, .int .i64 0] _ _ FM2.out)
  refine bodyPost_ret (results_cell_row rfl _ _ w.heap.size _ _ _ _ rfl FR.out Try.underlying38 rfl (by kernel_rfl)) rfl ?_
  have hsz : (w3.setRow w.heap.size #[.string ⟨#[]⟩, .int .i64 0, .slice (some ⟨w2.heap.size, 0, none⟩) 1 1, .slice none 0 0, .slice none 0 0, .slice none 0 0, .slice ba 1 bc, .slice wa 1 wc, .int .i64 6, .slice none 0 0, .slice none 0 0, .slice none 0 0, .slice none 0 0, .slice none 0 0, .int .i64 0]).heap.size = w3.heap.size := by simp
  have hk : ∀ b, w.heap.size < b → (w3.setRow w.heap.size #[.string ⟨#[]⟩, .int .i64 0, .slice (some ⟨w2.heap.size, 0, none⟩) 1 1, .slice none 0 0, .slice none 0 0, .slice none 0 0, .slice ba 1 bc, .slice wa 1 wc, .int .i64 6, .slice none 0 0, .slice none 0 0, .slice none 0 0, .slice none 0 0, .slice none 0 0, .int .i64 0]).heap[b]? = w3.heap[b]? := fun b hb => setRow_other _ _ _ _ (Nat.ne_of_gt hb)
  refine ⟨.slice (some ⟨w2.heap.size, 0, none⟩) 1 1, .slice ba 1 bc, .slice wa 1 wc, rfl, ((Step.of_below B2.out).trans ((jm_row w3 w.heap.size #[.string ⟨#[]⟩, .int .i64 0, .slice (some ⟨w2.heap.size, 0, none⟩) 1 1, .slice none 0 0, .slice none 0 0, .slice none 0 0, .slice ba 1 bc, .slice wa 1 wc, .int .i64 6, .slice none 0 0, .slice none 0 0, .slice none 0 0, .slice none 0 0, .slice none 0 0, .int .i64 0]).imp (fun x hx => Nat.ne_of_lt hx))).below, ?_⟩
  exact
    { name := Nat.zero_le _
      flags := ⟨by decide, by decide⟩
      segs := seg_lb (hsz ▸ hz2') (by omega) ((hk _ (by omega)).trans FS.out)
      segsR := fun s hs => by simp [leastL] at hs; subst hs; exact ⟨⟨by decide, by decide⟩, ⟨by decide, by decide⟩, ⟨by decide, by decide⟩⟩
      needed := LB.nil _ _ _
      runPath := LB.nil _ _ _
      syms := LB.nil _ _ _
      buckets := (Lb2.out.keeps (fun b hb => hk b hb.1)).imp (fun b hb => ⟨Nat.le_of_lt hb.1, by rw [hsz]; have := hb.2; omega⟩)
      bucketsL := fun c hc => by simp [leastL] at hc; subst hc; decide
      words := (Lw2.out.keeps (fun b hb => hk b hb.1)).imp (fun b hb => ⟨Nat.le_of_lt hb.1, by rw [hsz]; have := hb.2; omega⟩)
      wordsR := fun x hx => by simp [leastL] at hx; subst hx; decide
      shift := ⟨by decide, by decide⟩
      relocs := LB.nil _ _ _
      relocsR := fun s hs => by simp [leastL] at hs
      slots := LB.nil _ _ _
      slotsR := fun s hs => by simp [leastL] at hs
      init := LB.nil _ _ _
      initR := fun s hs => by simp [leastL] at hs
      fini := LB.nil _ _ _
      finiR := fun s hs => by simp [leastL] at hs
      tls := LB.nil _ _ _
      tlsSize := ⟨by decide, by decide⟩ }

end Go.Proofs.Ytbliedldlimpgaa

namespace Go.Proofs.Ytbliedldlimpgaa
set_option linter.unusedVariables false
set_option linter.unusedSimpArgs false
open Go.RowKit

theorem okN_i64 {size : Nat} {n : Int} (hs : size = 1 ∨ size = 2 ∨ size = 4 ∨ size = 8) (h : okN size n) : -9223372036854775808 ≤ n ∧ n ≤ 9223372036854775807 := by
  have p1 : (256 : Int) ^ 1 = 256 := by decide
  have p2 : (256 : Int) ^ 2 = 65536 := by decide
  have p4 : (256 : Int) ^ 4 = 4294967296 := by decide
  unfold okN at h
  rcases hs with rfl | rfl | rfl | rfl
  · rw [if_neg (by decide)] at h; simp only [p1] at h; omega
  · rw [if_neg (by decide)] at h; simp only [p2] at h; omega
  · rw [if_neg (by decide)] at h; simp only [p4] at h; omega
  · rw [if_pos rfl] at h; omega
theorem all1 {P : Int → Prop} {a : Int} (ha : P a) : ∀ n ∈ [a], P n := fun n hn => by simp at hn; subst hn; exact ha
theorem all2 {P : Int → Prop} {a b : Int} (ha : P a) (hb : P b) : ∀ n ∈ [a, b], P n := fun n hn => by
  rcases List.mem_cons.1 hn with rfl | hn
  · exact ha
  · exact all1 hb n hn
theorem all3 {P : Int → Prop} {a b c : Int} (ha : P a) (hb : P b) (hc : P c) : ∀ n ∈ [a, b, c], P n := fun n hn => by
  rcases List.mem_cons.1 hn with rfl | hn
  · exact ha
  · exact all2 hb hc n hn
theorem all5 {P : Int → Prop} {a b c d e : Int} (ha : P a) (hb : P b) (hc : P c) (hd : P d) (he : P e) : ∀ n ∈ [a, b, c, d, e], P n := fun n hn => by
  rcases List.mem_cons.1 hn with rfl | hn
  · exact ha
  · rcases List.mem_cons.1 hn with rfl | hn
    · exact hb
    · exact all3 hc hd he n hn
theorem ts1 {P : List UInt8 → Prop} {a : List UInt8} (ha : P a) : ∀ n ∈ [a], P n := fun n hn => by simp at hn; subst hn; exact ha
theorem ts2 {P : List UInt8 → Prop} {a b : List UInt8} (ha : P a) (hb : P b) : ∀ n ∈ [a, b], P n := fun n hn => by
  rcases List.mem_cons.1 hn with rfl | hn
  · exact ha
  · exact ts1 hb n hn
/-- Num of numbers that stand in a slice made for the call -/
theorem wnum_built (b : Nat) (S : Nat → Prop) (w : World) (l : List UInt8) (size : Nat) (ns : List Int) (h : WB b S w l) (hs : size = 1 ∨ size = 2 ∨ size = 4 ∨ size = 8) (hf : ∀ n ∈ ns, okN size n) (hlen : l.length + size * ns.length ≤ 1000000000) (hn : ns.length ≤ 1000000) :
    Calls Try.prog 36 #[.pointer (some ⟨b, 0, none⟩), .int .i64 (size : Int), .slice (some ⟨w.heap.size, 0, none⟩) ns.length ns.length] (w.alloc (.cells (ns.map (Value.int .i64)).toArray 3 (0, 0))) fun e w' => e = .returned (.tuple #[]) ∧ WB b S w' (l ++ numsL size ns) ∧ Step S w w' := by
  refine (wnum_any b (fun x => S x ∨ x = w.heap.size) _ l size ns _ (h.alloc _) ((built_ints w ns (by omega)).imp (fun x hx => Or.inr hx)) hs hf (fun n hn => okN_i64 hs (hf n hn)) hlen).mono ?_
  rintro e w' ⟨he, hw, hs'⟩
  exact ⟨he, hw.less (fun x hx => Or.inl hx), (Step.later ((Below.refl _ w).alloc (Nat.le_refl _) _) (fun x hx => h.inS hx)).trans (hs'.imp (fun x hx => Or.inl hx))⟩
theorem wtext_built (b : Nat) (S : Nat → Prop) (w : World) (l : List UInt8) (ss : List (List UInt8)) (h : WB b S w l) (hf : ∀ s ∈ ss, s.length ≤ 4096) (hlen : l.length + 4098 * ss.length ≤ 1000000000) :
    Calls Try.prog 35 #[.pointer (some ⟨b, 0, none⟩), .slice (some ⟨w.heap.size, 0, none⟩) ss.length ss.length] (w.alloc (.cells (ss.map (fun s => Value.string ⟨s.toArray⟩)).toArray 9 (0, 0))) fun e w' => e = .returned (.tuple #[]) ∧ WB b S w' (l ++ textsL ss) ∧ Step S w w' := by
  refine (wtext_any b (fun x => S x ∨ x = w.heap.size) _ l ss _ (h.alloc _) ((built_strs w ss (by omega) (fun s hs => by have := hf s hs; omega)).imp (fun x hx => Or.inr hx)) hf hlen).mono ?_
  rintro e w' ⟨he, hw, hs'⟩
  exact ⟨he, hw.less (fun x hx => Or.inl hx), (Step.later ((Below.refl _ w).alloc (Nat.le_refl _) _) (fun x hx => h.inS hx)).trans (hs'.imp (fun x hx => Or.inl hx))⟩
theorem flat_len {α : Type} (f : α → List UInt8) (m : Nat) : ∀ l : List α, (∀ x ∈ l, (f x).length ≤ m) → (l.map f).flatten.length ≤ m * l.length
  | [], _ => by simp
  | x :: l, h => by
    have h1 := flat_len f m l (fun y hy => h y (by simp [hy]))
    have h2 := h x (by simp)
    rw [List.map_cons, List.flatten_cons, List.length_append, List.length_cons, Nat.mul_succ]; omega
theorem flat_take {α : Type} (f : α → List UInt8) (l : List α) (k : Nat) (x : α) (hx : l[k]? = some x) : ((l.take (k + 1)).map f).flatten = ((l.take k).map f).flatten ++ f x := by
  obtain ⟨h, rfl⟩ := List.getElem?_eq_some_iff.1 hx
  rw [List.take_succ_eq_append_getElem h, List.map_append, List.flatten_append]; simp
theorem flat_take_len {α : Type} (f : α → List UInt8) (m n : Nat) (l : List α) (k : Nat) (h : ∀ x ∈ l, (f x).length ≤ m) (hk : k ≤ n) : ((l.take k).map f).flatten.length ≤ m * n := by
  have h1 := flat_len f m (l.take k) (fun x hx => h x (List.mem_of_mem_take hx))
  have h2 := List.length_take_le k l
  exact Nat.le_trans h1 (Nat.mul_le_mul_left _ (by omega))
theorem segF_len {s : SegL} (h : okSeg s) : (segF s).length ≤ 1048589 := by
  unfold segF blockL; simp only [List.length_append, digitsL_len]; have := h.2.2.2; omega
theorem needF_len {n : NeedL} (h : okNeed n) : (needF n).length ≤ 1053187 := by
  have h1 := textsL_len n.versions h.2.2
  have h2 : n.versions.length < 256 := h.2.1
  unfold needF textL'; simp only [List.length_append, digitsL_len]; have := h.1; omega
theorem symF_len {s : SymL} (h : okSym s) : (symF s).length ≤ 8217 := by
  unfold symF textL'; simp only [List.length_append, digitsL_len]; have := h.1; have := h.2.1; omega
theorem chainF_len {c : List Int} (h : okLen 2 c.length) : (chainF c).length ≤ 131074 := by
  have h2 : c.length < 65536 := h
  unfold chainF; simp only [List.length_append, digitsL_len, numsL_len]; omega
theorem relF_len (r : RelL) : (relF r).length ≤ 25 := by unfold relF; simp only [List.length_append, digitsL_len]; omega
theorem slotF_len (r : SlotL) : (slotF r).length ≤ 12 := by unfold slotF; simp only [List.length_append, digitsL_len]; omega
theorem digitsL_wrap (x : Int) : digitsL 8 (IntKind.i64.wrap x) = digitsL 8 x := by
  unfold digitsL
  rw [IntKind.wrap_i64]
  have : ((x + 9223372036854775808) % 18446744073709551616 - 9223372036854775808) % 18446744073709551616 = x % 18446744073709551616 := by omega
  rw [this]
/-- how long an image's lists are -/
structure Few (im : ImgL) : Prop where
  segs : im.segs.length ≤ 8
  needed : im.needed.length ≤ 16
  runPath : im.runPath.length ≤ 16
  syms : im.syms.length ≤ 512
  buckets : im.buckets.length ≤ 512
  words : im.words.length ≤ 64
  relocs : im.relocs.length ≤ 512
  slots : im.slots.length ≤ 128
  init : im.init.length ≤ 8
  fini : im.fini.length ≤ 8
theorem may_few {im : ImgL} (h : mayL im = 0) : Few im := by
  obtain ⟨hh, hg, ht, hs, htb, hr, hsl, hi, hf⟩ := may_parts h
  simp only [headB, Bool.and_eq_true, decide_eq_true_eq] at hh
  simp only [segsB, Bool.and_eq_true, decide_eq_true_eq] at hg
  simp only [symsB, Bool.and_eq_true, decide_eq_true_eq] at hs
  simp only [tableB, Bool.and_eq_true, decide_eq_true_eq] at htb
  simp only [relocsB, Bool.and_eq_true, decide_eq_true_eq] at hr
  simp only [slotsB, Bool.and_eq_true, decide_eq_true_eq] at hsl
  simp only [runB, Bool.and_eq_true, decide_eq_true_eq] at hi hf
  have hsv := htb.1.1.2
  simp only [sieveB, Bool.and_eq_true, Bool.or_eq_true, decide_eq_true_eq] at hsv
  exact ⟨hg.1.2, hh.1.1.1.2, hh.1.1.2, hs.1, htb.1.1.1.2, by omega, hr.1, hsl.1, hi.1, hf.1⟩

end Go.Proofs.Ytbliedldlimpgaa

namespace Go.Proofs.Ytbliedldlimpgaa
set_option linter.unusedVariables false
set_option linter.unusedSimpArgs false
open Go.RowKit

/-- the runs' bytes, of the first k lists -/
def runsF (im : ImgL) (k : Nat) : List UInt8 := ((([im.init, im.fini] : List (List Int)).take k).map fun l => digitsL 1 l.length ++ numsL 4 l).flatten

theorem runsF_len (im : ImgL) (q : Nat) (h : OkImg im) : (runsF im q).length ≤ 2050 := by
  have h1 : im.init.length < 256 := h.init.1
  have h2 : im.fini.length < 256 := h.fini.1
  match q with
  | 0 => simp [runsF]
  | 1 => simp [runsF, digitsL_len, numsL_len]; omega
  | q + 2 => simp [runsF, digitsL_len, numsL_len]; omega
theorem okN_one (b : Bool) : okN 1 (oneL b) := by cases b <;> simp [okN, oneL]
theorem wrap64_eq (x : Int) : wrap64 x = IntKind.i64.wrap x := by rw [IntKind.wrap_i64]; unfold wrap64; rfl
theorem digitsL_wrap64 (x : Int) : digitsL 8 (wrap64 x) = digitsL 8 x := by rw [wrap64_eq]; exact digitsL_wrap x
theorem okN_wrap (x : Int) : okN 8 (wrap64 x) := by unfold okN; rw [if_pos rfl, wrap64_eq, IntKind.wrap_i64]; omega

set_option maxHeartbeats 64000000 in
set_option maxRecDepth 100000 in
theorem iencode_any (w : World) (v : ImgV) (im : ImgL) (hm : ImgM (· < w.heap.size) w v im) :
    Calls Try.prog 12 #[.agg (imgCells v im)] w fun e w' => ∃ r, e = .returned (.tuple #[r, .int .i64 (mayL im)]) ∧ Below w.heap.size w w' ∧ (mayL im ≠ 0 → r = .slice none 0 0) ∧ (mayL im = 0 → OwnK 5 kByte w.heap.size (fun _ => False) w' r (formL im)) := by
  obtain ⟨a2, c2, hv2⟩ := hm.segs.form
  obtain ⟨a3, c3, hv3⟩ := hm.needed.form
  obtain ⟨a4, c4, hv4⟩ := hm.runPath.form
  obtain ⟨a5, c5, hv5⟩ := hm.syms.form
  obtain ⟨a6, c6, hv6⟩ := hm.buckets.form
  obtain ⟨a7, c7, hv7⟩ := hm.words.form
  obtain ⟨a9, c9, hv9⟩ := hm.relocs.form
  obtain ⟨a10, c10, hv10⟩ := hm.slots.form
  obtain ⟨a11, c11, hv11⟩ := hm.init.form
  obtain ⟨a12, c12, hv12⟩ := hm.fini.form
  obtain ⟨a13, c13, hv13⟩ := hm.tls.form
  obtain ⟨vsegs, vneeded, vrunPath, vsyms, vbuckets, vwords, vrelocs, vslots, vinit, vfini, vtls⟩ := v
  simp only at hv2 hv3 hv4 hv5 hv6 hv7 hv9 hv10 hv11 hv12 hv13
  subst hv2 hv3 hv4 hv5 hv6 hv7 hv9 hv10 hv11 hv12 hv13
  have Hm := Lib.hid hm
  have HMay := Lib.hid (fun w' (hb : Below w.heap.size w w') => imay_any w' ⟨.slice a2 im.segs.length c2, .slice a3 im.needed.length c3, .slice a4 im.runPath.length c4, .slice a5 im.syms.length c5, .slice a6 im.buckets.length c6, .slice a7 im.words.length c7, .slice a9 im.relocs.length c9, .slice a10 im.slots.length c10, .slice a11 im.init.length c11, .slice a12 im.fini.length c12, .slice a13 im.tls.length c13⟩ im (hm.later hb))
  have hcells : imgCells ⟨.slice a2 im.segs.length c2, .slice a3 im.needed.length c3, .slice a4 im.runPath.length c4, .slice a5 im.syms.length c5, .slice a6 im.buckets.length c6, .slice a7 im.words.length c7, .slice a9 im.relocs.length c9, .slice a10 im.slots.length c10, .slice a11 im.init.length c11, .slice a12 im.fini.length c12, .slice a13 im.tls.length c13⟩ im = #[.string ⟨im.name.toArray⟩, .int .i64 im.flags, .slice a2 im.segs.length c2, .slice a3 im.needed.length c3, .slice a4 im.runPath.length c4, .slice a5 im.syms.length c5, .slice a6 im.buckets.length c6, .slice a7 im.words.length c7, .int .i64 im.shift, .slice a9 im.relocs.length c9, .slice a10 im.slots.length c10, .slice a11 im.init.length c11, .slice a12 im.fini.length c12, .slice a13 im.tls.length c13, .int .i64 im.tlsSize] := rfl
  rw [hcells] at HMay ⊢
  clear hcells hm
  generalize hI : (Array.mk [.string ⟨im.name.toArray⟩, .int .i64 im.flags, .slice a2 im.segs.length c2, .slice a3 im.needed.length c3, .slice a4 im.runPath.length c4, .slice a5 im.syms.length c5, .slice a6 im.buckets.length c6, .slice a7 im.words.length c7, .int .i64 im.shift, .slice a9 im.relocs.length c9, .slice a10 im.slots.length c10, .slice a11 im.init.length c11, .slice a12 im.fini.length c12, .slice a13 im.tls.length c13, .int .i64 im.tlsSize] : Array Value) = I at HMay
  have F0 := Lib.hid (heap_alloc_new w (.cells I 38 (0, 0)))
  have B0 := Lib.hid ((Below.refl w.heap.size w).alloc (Nat.le_refl _) (.cells I 38 (0, 0)))
  have hz0 : (w.alloc (.cells I 38 (0, 0))).heap.size = w.heap.size + 1 := by simp
  subst hI
  go_enter Try.func12, Try.ntmps12
  go_wp2_with fail
  generalize w.alloc (.cells #[.string ⟨im.name.toArray⟩, .int .i64 im.flags, .slice a2 im.segs.length c2, .slice a3 im.needed.length c3, .slice a4 im.runPath.length c4, .slice a5 im.syms.length c5, .slice a6 im.buckets.length c6, .slice a7 im.words.length c7, .int .i64 im.shift, .slice a9 im.relocs.length c9, .slice a10 im.slots.length c10, .slice a11 im.init.length c11, .slice a12 im.fini.length c12, .slice a13 im.tls.length c13, .int .i64 im.tlsSize] 38 (0, 0)) = w0 at *
  refine (HMay.out w0 B0.out).mono ?_
  rintro e w1 ⟨rfl, hb1⟩
  have hz1 := hb1.size
  have F1 := Lib.hid ((hb1.block w.heap.size (by omega)).trans F0.out)
  have B1 := Lib.hid (B0.out.trans (hb1.mono (by omega)))
  clear hb1 HMay F0 B0
  by_cases hmay : mayL im = 0
  case neg =>
    have hbne : (mayL im != 0) = true := by rw [bne_iff_ne]; exact hmay
    have Hne := Lib.hid hmay
    clear hmay
    go_wp2
    go_ret2
    exact ⟨_, rfl, B1.out, fun _ => rfl, fun h => absurd h Hne.out⟩
  have Hok := Lib.hid (may_ok hmay Hm.out.wordsR)
  have Hfew := Lib.hid (may_few hmay)
  have Hm0 := Lib.hid hmay
  have hbne : (mayL im != 0) = false := by rw [bne_eq_false_iff_eq]; exact hmay
  rw [hmay]
  rw [hmay] at hbne
  clear hmay
  go_wp2_with fail
  refine (wnew_any w1).mono ?_
  rintro e w2 ⟨rfl, hw2, hb2, hz2⟩
  have HW2 := Lib.hid hw2
  have F2 := Lib.hid ((hb2.block w.heap.size (by omega)).trans F1.out)
  have B2 := Lib.hid (B1.out.trans (hb2.mono (by omega)))
  have hz2' : w1.heap.size < w2.heap.size := by omega
  clear hw2 hb2 hz2
  generalize w1.heap.size = wb at *
  have HC : Hid (∀ {wi : World}, Step (· < wb) w2 wi → ∀ k u, #[.string ⟨im.name.toArray⟩, .int .i64 im.flags, .slice a2 im.segs.length c2, .slice a3 im.needed.length c3, .slice a4 im.runPath.length c4, .slice a5 im.syms.length c5, .slice a6 im.buckets.length c6, .slice a7 im.words.length c7, .int .i64 im.shift, .slice a9 im.relocs.length c9, .slice a10 im.slots.length c10, .slice a11 im.init.length c11, .slice a12 im.fini.length c12, .slice a13 im.tls.length c13, .int .i64 im.tlsSize][k]? = some u → wi.cell? ⟨w.heap.size, k, none⟩ = some u) := Lib.hid (fun hs k u hu => by
    rw [hs.cell (p := ⟨w.heap.size, k, none⟩) (show w.heap.size < wb by omega), Lib.cell_of_heap F2.out]; exact hu)
  have HI : Hid (∀ {wi : World}, Step (· < wb) w2 wi → ImgM (· < w.heap.size) wi ⟨.slice a2 im.segs.length c2, .slice a3 im.needed.length c3, .slice a4 im.runPath.length c4, .slice a5 im.syms.length c5, .slice a6 im.buckets.length c6, .slice a7 im.words.length c7, .slice a9 im.relocs.length c9, .slice a10 im.slots.length c10, .slice a11 im.init.length c11, .slice a12 im.fini.length c12, .slice a13 im.tls.length c13⟩ im) := Lib.hid (fun hs => Hm.out.keeps (fun b hb => by
    have hb : b < w.heap.size := hb
    rw [hs.block b (show b < wb by omega)]; exact B2.out.block b hb))
  have HS2 : Hid (Step (· < wb) w2 w2) := Lib.hid (Step.refl _ _)
  have hsub : ∀ x, x < w.heap.size → x < wb := fun x hx => by omega
  have x0 : w2.cell? ⟨w.heap.size, 0, none⟩ = some (.string ⟨im.name.toArray⟩) := HC.out HS2.out 0 _ rfl
  have HN := Lib.hid (wtext_built wb (· < wb) w2 ([] : List UInt8) [[99, 108, 101, 118, 105, 115, 49], im.name] HW2.out (ts2 (by decide) Hok.out.name) (by simp only [List.length_cons, List.length_nil]; omega))
  have hpl := textsL_len [[99, 108, 101, 118, 105, 115, 49], im.name] (ts2 (by decide) Hok.out.name)
  simp only [List.length_cons, List.length_nil] at hpl
  go_wp2_with fail
  refine HN.out.mono ?_
  rintro e w3 ⟨rfl, hw, hs⟩
  have HS3 := Lib.hid (HS2.out.trans hs)
  obtain ⟨L3, hL3⟩ : ∃ L3, ([] : List UInt8) ++ textsL [[99, 108, 101, 118, 105, 115, 49], im.name] = L3 := ⟨_, rfl⟩
  have bL3 : L3.length ≤ 8196 := by rw [← hL3]; simp only [List.length_append, List.length_nil, numsL_len, List.length_cons]; omega
  rw [hL3] at hw
  have HL3 := Lib.hid hL3
  have HW3 := Lib.hid hw
  clear hw hs HN hL3 x0
  clear hpl
  have x1 : w3.cell? ⟨w.heap.size, 1, none⟩ = some (.int .i64 im.flags) := HC.out HS3.out 1 _ rfl
  have x2 : w3.cell? ⟨w.heap.size, 2, none⟩ = some (.slice a2 im.segs.length c2) := HC.out HS3.out 2 _ rfl
  have HN := Lib.hid (wnum_built wb (· < wb) w3 L3 1 [im.flags, (im.segs.length : Int)] HW3.out (by decide) (all2 Hok.out.flags (okLen_N (by decide) Hok.out.segs.1)) (by simp only [List.length_cons, List.length_nil]; omega) (by simp))
  go_wp2_with fail
  refine HN.out.mono ?_
  rintro e w4 ⟨rfl, hw, hs⟩
  have HS4 := Lib.hid (HS3.out.trans hs)
  obtain ⟨L4, hL4⟩ : ∃ L4, L3 ++ numsL 1 [im.flags, (im.segs.length : Int)] = L4 := ⟨_, rfl⟩
  have bL4 : L4.length ≤ 8198 := by rw [← hL4]; simp only [List.length_append, List.length_nil, numsL_len, List.length_cons]; omega
  rw [hL4] at hw
  have HL4 := Lib.hid hL4
  have HW4 := Lib.hid hw
  clear hw hs HN hL4 x1 x2
  have x2 : w4.cell? ⟨w.heap.size, 2, none⟩ = some (.slice a2 im.segs.length c2) := HC.out HS4.out 2 _ rfl
  obtain ⟨la2, lb2, lo2, lc2, hlv, hlm2, hlc2, hlat⟩ := (HI.out HS4.out).segs.at
  cases hlv
  have Hat2 := Lib.hid hlat
  clear hlat
  have hF2 : ∀ x ∈ im.segs, (segF x).length ≤ 1048589 := fun x hx => segF_len (Hok.out.segs.2 x hx)
  have HF2 := Lib.hid hF2
  clear hF2
  have hfew2 : im.segs.length ≤ 8 := Hfew.out.segs
  go_wp2_with fail
  clear x2
  go_loopw [44] (fun  i wr => ∃ q : Nat, i = .int .i64 q ∧ q ≤ im.segs.length ∧ WB wb (· < wb) wr (L4 ++ ((im.segs.take q).map segF).flatten) ∧ Step (· < wb) w2 wr) (fun  i _ => im.segs.length - (intOf i).toNat)
  case atStart => exact ⟨0, rfl, Nat.zero_le _, by have h := HW4.out; simpa using h, HS4.out⟩
  case round =>
    obtain ⟨q, rfl, hq, hw, hst⟩ := hrel
    have hfl := flat_take_len segF 1048589 8 im.segs q HF2.out (by omega)
    obtain ⟨M, hM⟩ : ∃ M, L4 ++ ((im.segs.take q).map segF).flatten = M := ⟨_, rfl⟩
    have hMl : M.length ≤ 8396910 := by rw [← hM, List.length_append]; omega
    rw [hM] at hw
    have HM0 := Lib.hid hM
    have HW := Lib.hid hw
    have HS := Lib.hid hst
    clear hw hst hM hfl
    by_cases hlt : q < im.segs.length
    · obtain rfl := Hat2.out.addr (by omega)
      obtain ⟨s, hx⟩ : ∃ s, im.segs[q]? = some s := ⟨_, List.getElem?_eq_getElem hlt⟩
      have hmem := List.mem_of_getElem? hx
      have Hft := Lib.hid (flat_take segF im.segs q s hx)
      have hsl := HF2.out s hmem
      have hkk : Keeps (· < w.heap.size) w4 wr := fun b hb => by have hb : b < w.heap.size := hb; rw [HS.out.block b (show b < wb by omega), HS4.out.block b (show b < wb by omega)]
      obtain ⟨ev, g0, g1, g2, g3, hev⟩ := (Hat2.out.keeps hkk).seg4 q s hx
      obtain ⟨ea, ec, rfl⟩ := hev.form
      have Hev := Lib.hid hev
      have hoks := Hok.out.segs.2 s hmem
      have hob : s.bytes.length ≤ 1048576 := hoks.2.2.2
      clear hev
      have HSx := Lib.hid (HS.out.trans (Step.later ((Below.refl _ wr).alloc (Nat.le_refl _) (.cells #[.int .i64 s.at_, .int .i64 s.size, .slice ea s.bytes.length ec, .int .i64 s.perm] 72 (0, 0))) (fun x hx => HW.out.inS hx)))
      have HWx := Lib.hid (HW.out.alloc (.cells #[.int .i64 s.at_, .int .i64 s.size, .slice ea s.bytes.length ec, .int .i64 s.perm] 72 (0, 0)))
      have HX := Lib.hid (heap_alloc_new wr (.cells #[.int .i64 s.at_, .int .i64 s.size, .slice ea s.bytes.length ec, .int .i64 s.perm] 72 (0, 0)))
      have hzx : wr.heap.size < (wr.alloc (.cells #[.int .i64 s.at_, .int .i64 s.size, .slice ea s.bytes.length ec, .int .i64 s.perm] 72 (0, 0))).heap.size := by simp
      have HBX0 := Lib.hid (fun b (hb : b < w.heap.size) => heap_alloc_old wr (.cells #[.int .i64 s.at_, .int .i64 s.size, .slice ea s.bytes.length ec, .int .i64 s.perm] 72 (0, 0)) (r := b) (by have := HW.out.lt; omega))
      clear hx
      go_upto_region 10 with fail
      generalize wr.alloc (.cells #[.int .i64 s.at_, .int .i64 s.size, .slice ea s.bytes.length ec, .int .i64 s.perm] 72 (0, 0)) = v0 at *
      generalize wr.heap.size = zx at *
      have HV0 := Lib.hid (HWx.out)
      have HT0 : Hid (Step (fun x => x < wb ∨ x = zx) v0 v0) := Lib.hid (Step.refl _ _)
      clear HWx
      have HBX := Lib.hid (fun b (hb : b < w.heap.size) => HBX0.out b hb)
      have y0 : v0.cell? ⟨zx, 0, none⟩ = some (.int .i64 s.at_) := by rw [Lib.cell_of_heap ((HT0.out.block zx (Or.inr rfl)).trans HX.out)]; rfl
      have y1 : v0.cell? ⟨zx, 1, none⟩ = some (.int .i64 s.size) := by rw [Lib.cell_of_heap ((HT0.out.block zx (Or.inr rfl)).trans HX.out)]; rfl
      have HN := Lib.hid (wnum_built wb (fun x => x < wb ∨ x = zx) v0 M 4 [s.at_, s.size] HV0.out (by decide) (all2 hoks.1 hoks.2.1) (by simp only [List.length_cons, List.length_nil, List.length_append, numsL_len, digitsL_len]; omega) (by simp))
      go_wp2_with fail
      refine HN.out.mono ?_
      rintro e v1 ⟨rfl, hw, hs⟩
      have HT1 := Lib.hid (HT0.out.trans hs)
      obtain ⟨M1, hM1⟩ : ∃ M1, M ++ numsL 4 [s.at_, s.size] = M1 := ⟨_, rfl⟩
      rw [hM1] at hw
      have hlM1 : M1.length = M.length + (numsL 4 [s.at_, s.size]).length := by rw [← hM1, List.length_append]
      simp only [numsL_len, List.length_cons, List.length_nil] at hlM1
      have HE1 := Lib.hid hM1
      have HV1 := Lib.hid hw
      clear hw hs HN hM1 y0 y1
      have y3 : v1.cell? ⟨zx, 3, none⟩ = some (.int .i64 s.perm) := by rw [Lib.cell_of_heap ((HT1.out.block zx (Or.inr rfl)).trans HX.out)]; rfl
      have HN := Lib.hid (wnum_built wb (fun x => x < wb ∨ x = zx) v1 M1 1 [s.perm] HV1.out (by decide) (all1 hoks.2.2.1) (by simp only [List.length_cons, List.length_nil, List.length_append, numsL_len, digitsL_len]; omega) (by simp))
      go_wp2_with fail
      refine HN.out.mono ?_
      rintro e v2 ⟨rfl, hw, hs⟩
      have HT2 := Lib.hid (HT1.out.trans hs)
      obtain ⟨M2, hM2⟩ : ∃ M2, M1 ++ numsL 1 [s.perm] = M2 := ⟨_, rfl⟩
      rw [hM2] at hw
      have hlM2 : M2.length = M1.length + (numsL 1 [s.perm]).length := by rw [← hM2, List.length_append]
      simp only [numsL_len, List.length_cons, List.length_nil] at hlM2
      have HE2 := Lib.hid hM2
      have HV2 := Lib.hid hw
      clear hw hs HN hM2 y3
      have y2 : v2.cell? ⟨zx, 2, none⟩ = some (.slice ea s.bytes.length ec) := by rw [Lib.cell_of_heap ((HT2.out.block zx (Or.inr rfl)).trans HX.out)]; rfl
      have HN := Lib.hid (wblock_any wb (fun x => x < wb ∨ x = zx) v2 M2 s.bytes (.slice ea s.bytes.length ec) HV2.out ((Hev.out.keeps (fun b hb => by have hb : b < w.heap.size := hb; rw [HT2.out.block b (Or.inl (hsub b hb)), HBX.out b hb])).imp (fun x hx => Or.inl (hsub x hx))) (hoks.2.2.2) (by omega))
      go_wp2_with fail
      refine HN.out.mono ?_
      rintro e v3 ⟨rfl, hw, hs⟩
      have HT3 := Lib.hid (HT2.out.trans hs)
      obtain ⟨M3, hM3⟩ : ∃ M3, M2 ++ blockL s.bytes = M3 := ⟨_, rfl⟩
      rw [hM3] at hw
      have hlM3 : M3.length = M2.length + (blockL s.bytes).length := by rw [← hM3, List.length_append]
      have hpl : (blockL s.bytes).length = 4 + s.bytes.length := by unfold blockL; rw [List.length_append, digitsL_len]
      have HE3 := Lib.hid hM3
      have HV3 := Lib.hid hw
      clear hw hs HN hM3 y2
      have Hfin : Hid (L4 ++ ((im.segs.take (q + 1)).map segF).flatten = M3) := Lib.hid (by rw [Hft.out, ← List.append_assoc, HM0.out, ← HE3.out, ← HE2.out, ← HE1.out]; unfold segF; simp only [numsL, List.map_cons, List.map_nil, List.flatten_cons, List.flatten_nil, List.append_nil, List.append_assoc])
      go_wp2
      go_roundw
      case rel => exact ⟨q + 1, by go_num, by omega, by rw [Hfin.out]; exact HV3.out.less (fun x hx => Or.inl hx), HSx.out.trans (HT3.out.imp (fun x hx => Or.inl hx))⟩
      case measure => simp [intOf]; omega
    · have hall : im.segs.take q = im.segs := List.take_of_length_le (by omega)
      rw [hall] at HM0
      have HL5 : Hid (L4 ++ (im.segs.map segF).flatten = M) := HM0
      have HW5 := HW
      have HS5 := HS
      clear HM0 HW HS hall
      obtain ⟨w5, hw5⟩ : ∃ x : World, x = wr := ⟨_, rfl⟩
      subst hw5
      obtain ⟨L5, hL5⟩ : ∃ x : List UInt8, x = M := ⟨_, rfl⟩
      subst hL5
      have x3 : w5.cell? ⟨w.heap.size, 3, none⟩ = some (.slice a3 im.needed.length c3) := HC.out HS5.out 3 _ rfl
      have HN := Lib.hid (wnum_built wb (· < wb) w5 L5 1 [(im.needed.length : Int)] HW5.out (by decide) (all1 (okLen_N (by decide) Hok.out.needed.1)) (by simp only [List.length_cons, List.length_nil]; omega) (by simp))
      go_wp2_with fail
      refine HN.out.mono ?_
      rintro e w6 ⟨rfl, hw, hs⟩
      have HS6 := Lib.hid (HS5.out.trans hs)
      obtain ⟨L6, hL6⟩ : ∃ L6, L5 ++ numsL 1 [(im.needed.length : Int)] = L6 := ⟨_, rfl⟩
      have bL6 : L6.length ≤ 8396911 := by rw [← hL6]; simp only [List.length_append, List.length_nil, numsL_len, List.length_cons]; omega
      rw [hL6] at hw
      have HL6 := Lib.hid hL6
      have HW6 := Lib.hid hw
      clear hw hs HN hL6 x3
      have x3 : w6.cell? ⟨w.heap.size, 3, none⟩ = some (.slice a3 im.needed.length c3) := HC.out HS6.out 3 _ rfl
      obtain ⟨la3, lb3, lo3, lc3, hlv, hlm3, hlc3, hlat⟩ := (HI.out HS6.out).needed.at
      cases hlv
      have Hat3 := Lib.hid hlat
      clear hlat
      have hF3 : ∀ x ∈ im.needed, (needF x).length ≤ 1053187 := fun x hx => needF_len (Hok.out.needed.2 x hx)
      have HF3 := Lib.hid hF3
      clear hF3
      have hfew3 : im.needed.length ≤ 16 := Hfew.out.needed
      go_wp2_with fail
      clear x3
      go_loopw [74] (fun  i wr => ∃ q : Nat, i = .int .i64 q ∧ q ≤ im.needed.length ∧ WB wb (· < wb) wr (L6 ++ ((im.needed.take q).map needF).flatten) ∧ Step (· < wb) w2 wr) (fun  i _ => im.needed.length - (intOf i).toNat)
      case atStart => exact ⟨0, rfl, Nat.zero_le _, by have h := HW6.out; simpa using h, HS6.out⟩
      case round =>
        obtain ⟨q, rfl, hq, hw, hst⟩ := hrel
        have hfl := flat_take_len needF 1053187 16 im.needed q HF3.out (by omega)
        obtain ⟨M, hM⟩ : ∃ M, L6 ++ ((im.needed.take q).map needF).flatten = M := ⟨_, rfl⟩
        have hMl : M.length ≤ 25247903 := by rw [← hM, List.length_append]; omega
        rw [hM] at hw
        have HM0 := Lib.hid hM
        have HW := Lib.hid hw
        have HS := Lib.hid hst
        clear hw hst hM hfl
        by_cases hlt : q < im.needed.length
        · obtain rfl := Hat3.out.addr (by omega)
          obtain ⟨s, hx⟩ : ∃ s, im.needed[q]? = some s := ⟨_, List.getElem?_eq_getElem hlt⟩
          have hmem := List.mem_of_getElem? hx
          have Hft := Lib.hid (flat_take needF im.needed q s hx)
          have hsl := HF3.out s hmem
          have hkk : Keeps (· < w.heap.size) w6 wr := fun b hb => by have hb : b < w.heap.size := hb; rw [HS.out.block b (show b < wb by omega), HS6.out.block b (show b < wb by omega)]
          obtain ⟨ev, g0, g1, hev, _⟩ := (Hat3.out.keeps hkk).need2 q s hx
          obtain ⟨ea, ec, rfl⟩ := hev.form
          have Hev := Lib.hid hev
          have hoks := Hok.out.needed.2 s hmem
          have hob : s.name.length ≤ 4096 := hoks.1
          have hov : s.versions.length < 256 := hoks.2.1
          clear hev
          have HSx := Lib.hid (HS.out.trans (Step.later ((Below.refl _ wr).alloc (Nat.le_refl _) (.cells #[.string ⟨s.name.toArray⟩, .slice ea s.versions.length ec] 81 (0, 0))) (fun x hx => HW.out.inS hx)))
          have HWx := Lib.hid (HW.out.alloc (.cells #[.string ⟨s.name.toArray⟩, .slice ea s.versions.length ec] 81 (0, 0)))
          have HX := Lib.hid (heap_alloc_new wr (.cells #[.string ⟨s.name.toArray⟩, .slice ea s.versions.length ec] 81 (0, 0)))
          have hzx : wr.heap.size < (wr.alloc (.cells #[.string ⟨s.name.toArray⟩, .slice ea s.versions.length ec] 81 (0, 0))).heap.size := by simp
          have HBX0 := Lib.hid (fun b (hb : b < w.heap.size) => heap_alloc_old wr (.cells #[.string ⟨s.name.toArray⟩, .slice ea s.versions.length ec] 81 (0, 0)) (r := b) (by have := HW.out.lt; omega))
          clear hx
          go_upto_region 18 with fail
          generalize wr.alloc (.cells #[.string ⟨s.name.toArray⟩, .slice ea s.versions.length ec] 81 (0, 0)) = v0 at *
          generalize wr.heap.size = zx at *
          have HV0 := Lib.hid (HWx.out)
          have HT0 : Hid (Step (fun x => x < wb ∨ x = zx) v0 v0) := Lib.hid (Step.refl _ _)
          clear HWx
          have HBX := Lib.hid (fun b (hb : b < w.heap.size) => HBX0.out b hb)
          have y0 : v0.cell? ⟨zx, 0, none⟩ = some (.string ⟨s.name.toArray⟩) := by rw [Lib.cell_of_heap ((HT0.out.block zx (Or.inr rfl)).trans HX.out)]; rfl
          have HN := Lib.hid (wtext_built wb (fun x => x < wb ∨ x = zx) v0 M [s.name] HV0.out (ts1 hoks.1) (by simp only [List.length_cons, List.length_nil]; omega))
          go_wp2_with fail
          refine HN.out.mono ?_
          rintro e v1 ⟨rfl, hw, hs⟩
          have HT1 := Lib.hid (HT0.out.trans hs)
          obtain ⟨M1, hM1⟩ : ∃ M1, M ++ textsL [s.name] = M1 := ⟨_, rfl⟩
          rw [hM1] at hw
          have hlM1 : M1.length = M.length + (textsL [s.name]).length := by rw [← hM1, List.length_append]
          have hpl := textsL_len [s.name] (ts1 hoks.1)
          simp only [List.length_cons, List.length_nil] at hpl
          have HE1 := Lib.hid hM1
          have HV1 := Lib.hid hw
          clear hw hs HN hM1 y0
          have y1 : v1.cell? ⟨zx, 1, none⟩ = some (.slice ea s.versions.length ec) := by rw [Lib.cell_of_heap ((HT1.out.block zx (Or.inr rfl)).trans HX.out)]; rfl
          have HN := Lib.hid (wnum_built wb (fun x => x < wb ∨ x = zx) v1 M1 1 [(s.versions.length : Int)] HV1.out (by decide) (all1 (okLen_N (by decide) hoks.2.1)) (by simp only [List.length_cons, List.length_nil, List.length_append, numsL_len, digitsL_len]; omega) (by simp))
          go_wp2_with fail
          refine HN.out.mono ?_
          rintro e v2 ⟨rfl, hw, hs⟩
          have HT2 := Lib.hid (HT1.out.trans hs)
          obtain ⟨M2, hM2⟩ : ∃ M2, M1 ++ numsL 1 [(s.versions.length : Int)] = M2 := ⟨_, rfl⟩
          rw [hM2] at hw
          have hlM2 : M2.length = M1.length + (numsL 1 [(s.versions.length : Int)]).length := by rw [← hM2, List.length_append]
          simp only [numsL_len, List.length_cons, List.length_nil] at hlM2
          have HE2 := Lib.hid hM2
          have HV2 := Lib.hid hw
          clear hw hs HN hM2 y1
          have y1 : v2.cell? ⟨zx, 1, none⟩ = some (.slice ea s.versions.length ec) := by rw [Lib.cell_of_heap ((HT2.out.block zx (Or.inr rfl)).trans HX.out)]; rfl
          have HN := Lib.hid (wtext_any wb (fun x => x < wb ∨ x = zx) v2 M2 s.versions (.slice ea s.versions.length ec) HV2.out ((Hev.out.keeps (fun b hb => by have hb : b < w.heap.size := hb; rw [HT2.out.block b (Or.inl (hsub b hb)), HBX.out b hb])).imp (fun x hx => Or.inl (hsub x hx))) (hoks.2.2) (by omega))
          go_wp2_with fail
          refine HN.out.mono ?_
          rintro e v3 ⟨rfl, hw, hs⟩
          have HT3 := Lib.hid (HT2.out.trans hs)
          obtain ⟨M3, hM3⟩ : ∃ M3, M2 ++ textsL s.versions = M3 := ⟨_, rfl⟩
          rw [hM3] at hw
          have hlM3 : M3.length = M2.length + (textsL s.versions).length := by rw [← hM3, List.length_append]
          have hpl := textsL_len s.versions (hoks.2.2)
          have HE3 := Lib.hid hM3
          have HV3 := Lib.hid hw
          clear hw hs HN hM3 y1
          have Hfin : Hid (L6 ++ ((im.needed.take (q + 1)).map needF).flatten = M3) := Lib.hid (by rw [Hft.out, ← List.append_assoc, HM0.out, ← HE3.out, ← HE2.out, ← HE1.out]; unfold needF textL'; simp only [numsL, textsL, textL', List.map_cons, List.map_nil, List.flatten_cons, List.flatten_nil, List.append_nil, List.append_assoc])
          go_wp2
          go_roundw
          case rel => exact ⟨q + 1, by go_num, by omega, by rw [Hfin.out]; exact HV3.out.less (fun x hx => Or.inl hx), HSx.out.trans (HT3.out.imp (fun x hx => Or.inl hx))⟩
          case measure => simp [intOf]; omega
        · have hall : im.needed.take q = im.needed := List.take_of_length_le (by omega)
          rw [hall] at HM0
          have HL7 : Hid (L6 ++ (im.needed.map needF).flatten = M) := HM0
          have HW7 := HW
          have HS7 := HS
          clear HM0 HW HS hall
          obtain ⟨w7, hw7⟩ : ∃ x : World, x = wr := ⟨_, rfl⟩
          subst hw7
          obtain ⟨L7, hL7⟩ : ∃ x : List UInt8, x = M := ⟨_, rfl⟩
          subst hL7
          have x4 : w7.cell? ⟨w.heap.size, 4, none⟩ = some (.slice a4 im.runPath.length c4) := HC.out HS7.out 4 _ rfl
          have HN := Lib.hid (wnum_built wb (· < wb) w7 L7 1 [(im.runPath.length : Int)] HW7.out (by decide) (all1 (okLen_N (by decide) Hok.out.runPath.1)) (by simp only [List.length_cons, List.length_nil]; omega) (by simp))
          go_wp2_with fail
          refine HN.out.mono ?_
          rintro e w8 ⟨rfl, hw, hs⟩
          have HS8 := Lib.hid (HS7.out.trans hs)
          obtain ⟨L8, hL8⟩ : ∃ L8, L7 ++ numsL 1 [(im.runPath.length : Int)] = L8 := ⟨_, rfl⟩
          have bL8 : L8.length ≤ 25247904 := by rw [← hL8]; simp only [List.length_append, List.length_nil, numsL_len, List.length_cons]; omega
          rw [hL8] at hw
          have HL8 := Lib.hid hL8
          have HW8 := Lib.hid hw
          clear hw hs HN hL8 x4
          have x4 : w8.cell? ⟨w.heap.size, 4, none⟩ = some (.slice a4 im.runPath.length c4) := HC.out HS8.out 4 _ rfl
          have hfew4 : im.runPath.length ≤ 16 := Hfew.out.runPath
          have HN := Lib.hid (wtext_any wb (· < wb) w8 L8 im.runPath _ HW8.out ((HI.out HS8.out).runPath.imp (fun x hx => hsub x hx)) (Hok.out.runPath.2) (by omega))
          have hpl := textsL_len im.runPath Hok.out.runPath.2
          go_wp2_with fail
          refine HN.out.mono ?_
          rintro e w9 ⟨rfl, hw, hs⟩
          have HS9 := Lib.hid (HS8.out.trans hs)
          obtain ⟨L9, hL9⟩ : ∃ L9, L8 ++ textsL im.runPath = L9 := ⟨_, rfl⟩
          have bL9 : L9.length ≤ 25313472 := by rw [← hL9]; simp only [List.length_append, List.length_nil, numsL_len, List.length_cons]; omega
          rw [hL9] at hw
          have HL9 := Lib.hid hL9
          have HW9 := Lib.hid hw
          clear hw hs HN hL9 x4
          clear hpl
          have x5 : w9.cell? ⟨w.heap.size, 5, none⟩ = some (.slice a5 im.syms.length c5) := HC.out HS9.out 5 _ rfl
          have HN := Lib.hid (wnum_built wb (· < wb) w9 L9 2 [(im.syms.length : Int)] HW9.out (by decide) (all1 (okLen_N (by decide) Hok.out.syms.1)) (by simp only [List.length_cons, List.length_nil]; omega) (by simp))
          go_wp2_with fail
          refine HN.out.mono ?_
          rintro e w10 ⟨rfl, hw, hs⟩
          have HS10 := Lib.hid (HS9.out.trans hs)
          obtain ⟨L10, hL10⟩ : ∃ L10, L9 ++ numsL 2 [(im.syms.length : Int)] = L10 := ⟨_, rfl⟩
          have bL10 : L10.length ≤ 25313474 := by rw [← hL10]; simp only [List.length_append, List.length_nil, numsL_len, List.length_cons]; omega
          rw [hL10] at hw
          have HL10 := Lib.hid hL10
          have HW10 := Lib.hid hw
          clear hw hs HN hL10 x5
          have x5 : w10.cell? ⟨w.heap.size, 5, none⟩ = some (.slice a5 im.syms.length c5) := HC.out HS10.out 5 _ rfl
          obtain ⟨la5, lb5, lo5, lc5, hlv, hlm5, hlc5, hlat⟩ := (HI.out HS10.out).syms.at
          cases hlv
          have Hat5 := Lib.hid hlat
          clear hlat
          have hF5 : ∀ x ∈ im.syms, (symF x).length ≤ 8217 := fun x hx => symF_len (Hok.out.syms.2 x hx)
          have HF5 := Lib.hid hF5
          clear hF5
          have hfew5 : im.syms.length ≤ 512 := Hfew.out.syms
          go_wp2_with fail
          clear x5
          go_loopw [113] (fun  i wr => ∃ q : Nat, i = .int .i64 q ∧ q ≤ im.syms.length ∧ WB wb (· < wb) wr (L10 ++ ((im.syms.take q).map symF).flatten) ∧ Step (· < wb) w2 wr) (fun  i _ => im.syms.length - (intOf i).toNat)
          case atStart => exact ⟨0, rfl, Nat.zero_le _, by have h := HW10.out; simpa using h, HS10.out⟩
          case round =>
            obtain ⟨q, rfl, hq, hw, hst⟩ := hrel
            have hfl := flat_take_len symF 8217 512 im.syms q HF5.out (by omega)
            obtain ⟨M, hM⟩ : ∃ M, L10 ++ ((im.syms.take q).map symF).flatten = M := ⟨_, rfl⟩
            have hMl : M.length ≤ 29520578 := by rw [← hM, List.length_append]; omega
            rw [hM] at hw
            have HM0 := Lib.hid hM
            have HW := Lib.hid hw
            have HS := Lib.hid hst
            clear hw hst hM hfl
            by_cases hlt : q < im.syms.length
            · obtain rfl := Hat5.out.addr (by omega)
              obtain ⟨s, hx⟩ : ∃ s, im.syms[q]? = some s := ⟨_, List.getElem?_eq_getElem hlt⟩
              have hmem := List.mem_of_getElem? hx
              have Hft := Lib.hid (flat_take symF im.syms q s hx)
              have hsl := HF5.out s hmem
              have hkk : Keeps (· < w.heap.size) w10 wr := fun b hb => by have hb : b < w.heap.size := hb; rw [HS.out.block b (show b < wb by omega), HS10.out.block b (show b < wb by omega)]
              obtain ⟨_, g0, g1, g2, g3, g4, g5, g6, g7, g8⟩ := (Hat5.out.keeps hkk).sym9 q s hx
              have hoks := Hok.out.syms.2 s hmem
              have hob : s.name.length ≤ 4096 := hoks.1
              have hov : s.version.length ≤ 4096 := hoks.2.1
              have HSx := Lib.hid (HS.out.trans (Step.later ((Below.refl _ wr).alloc (Nat.le_refl _) (.cells #[.string ⟨s.name.toArray⟩, .string ⟨s.version.toArray⟩, .bool s.old, .int .i64 s.kind, .bool s.weak, .int .i64 s.vis, .bool s.defined, .int .i64 s.value, .int .i64 s.size] 54 (0, 0))) (fun x hx => HW.out.inS hx)))
              have HWx := Lib.hid (HW.out.alloc (.cells #[.string ⟨s.name.toArray⟩, .string ⟨s.version.toArray⟩, .bool s.old, .int .i64 s.kind, .bool s.weak, .int .i64 s.vis, .bool s.defined, .int .i64 s.value, .int .i64 s.size] 54 (0, 0)))
              have HX := Lib.hid (heap_alloc_new wr (.cells #[.string ⟨s.name.toArray⟩, .string ⟨s.version.toArray⟩, .bool s.old, .int .i64 s.kind, .bool s.weak, .int .i64 s.vis, .bool s.defined, .int .i64 s.value, .int .i64 s.size] 54 (0, 0)))
              have hzx : wr.heap.size < (wr.alloc (.cells #[.string ⟨s.name.toArray⟩, .string ⟨s.version.toArray⟩, .bool s.old, .int .i64 s.kind, .bool s.weak, .int .i64 s.vis, .bool s.defined, .int .i64 s.value, .int .i64 s.size] 54 (0, 0))).heap.size := by simp
              have HBX0 := Lib.hid (fun b (hb : b < w.heap.size) => heap_alloc_old wr (.cells #[.string ⟨s.name.toArray⟩, .string ⟨s.version.toArray⟩, .bool s.old, .int .i64 s.kind, .bool s.weak, .int .i64 s.vis, .bool s.defined, .int .i64 s.value, .int .i64 s.size] 54 (0, 0)) (r := b) (by have := HW.out.lt; omega))
              clear hx
              go_upto_region 28 with fail
              generalize wr.alloc (.cells #[.string ⟨s.name.toArray⟩, .string ⟨s.version.toArray⟩, .bool s.old, .int .i64 s.kind, .bool s.weak, .int .i64 s.vis, .bool s.defined, .int .i64 s.value, .int .i64 s.size] 54 (0, 0)) = v0 at *
              generalize wr.heap.size = zx at *
              have HV0 := Lib.hid (HWx.out)
              have HT0 : Hid (Step (fun x => x < wb ∨ x = zx) v0 v0) := Lib.hid (Step.refl _ _)
              clear HWx
              have HBX := Lib.hid (fun b (hb : b < w.heap.size) => HBX0.out b hb)
              have y0 : v0.cell? ⟨zx, 0, none⟩ = some (.string ⟨s.name.toArray⟩) := by rw [Lib.cell_of_heap ((HT0.out.block zx (Or.inr rfl)).trans HX.out)]; rfl
              have y1 : v0.cell? ⟨zx, 1, none⟩ = some (.string ⟨s.version.toArray⟩) := by rw [Lib.cell_of_heap ((HT0.out.block zx (Or.inr rfl)).trans HX.out)]; rfl
              have HN := Lib.hid (wtext_built wb (fun x => x < wb ∨ x = zx) v0 M [s.name, s.version] HV0.out (ts2 hoks.1 hoks.2.1) (by simp only [List.length_cons, List.length_nil]; omega))
              go_wp2_with fail
              refine HN.out.mono ?_
              rintro e v1 ⟨rfl, hw, hs⟩
              have HT1 := Lib.hid (HT0.out.trans hs)
              obtain ⟨M1, hM1⟩ : ∃ M1, M ++ textsL [s.name, s.version] = M1 := ⟨_, rfl⟩
              rw [hM1] at hw
              have hlM1 : M1.length = M.length + (textsL [s.name, s.version]).length := by rw [← hM1, List.length_append]
              have hpl := textsL_len [s.name, s.version] (ts2 hoks.1 hoks.2.1)
              simp only [List.length_cons, List.length_nil] at hpl
              have HE1 := Lib.hid hM1
              have HV1 := Lib.hid hw
              clear hw hs HN hM1 y0 y1
              have y3 : v1.cell? ⟨zx, 3, none⟩ = some (.int .i64 s.kind) := by rw [Lib.cell_of_heap ((HT1.out.block zx (Or.inr rfl)).trans HX.out)]; rfl
              have y5 : v1.cell? ⟨zx, 5, none⟩ = some (.int .i64 s.vis) := by rw [Lib.cell_of_heap ((HT1.out.block zx (Or.inr rfl)).trans HX.out)]; rfl
              have y2 : v1.cell? ⟨zx, 2, none⟩ = some (.bool s.old) := by rw [Lib.cell_of_heap ((HT1.out.block zx (Or.inr rfl)).trans HX.out)]; rfl
              have y4 : v1.cell? ⟨zx, 4, none⟩ = some (.bool s.weak) := by rw [Lib.cell_of_heap ((HT1.out.block zx (Or.inr rfl)).trans HX.out)]; rfl
              have y6 : v1.cell? ⟨zx, 6, none⟩ = some (.bool s.defined) := by rw [Lib.cell_of_heap ((HT1.out.block zx (Or.inr rfl)).trans HX.out)]; rfl
              have HN := Lib.hid (fun vd (hd : Below v1.heap.size v1 vd) => wnum_built wb (fun x => x < wb ∨ x = zx) vd M1 1 [s.kind, s.vis, oneL s.old, oneL s.weak, oneL s.defined] (HV1.out.below hd) (by decide) (all5 hoks.2.2.1 hoks.2.2.2.1 (okN_one _) (okN_one _) (okN_one _)) (by simp only [List.length_cons, List.length_nil, List.length_append, numsL_len, digitsL_len]; omega) (by simp))
              go_wp2_with fail
              refine wp_region_held_drew (S := fun w' => w'.cell? ⟨zx, 3, none⟩ = some (.int .i64 s.kind) ∧ w'.cell? ⟨zx, 5, none⟩ = some (.int .i64 s.vis) ∧ w'.cell? ⟨zx, 2, none⟩ = some (.bool s.old) ∧ w'.cell? ⟨zx, 4, none⟩ = some (.bool s.weak) ∧ w'.cell? ⟨zx, 6, none⟩ = some (.bool s.defined)) (by kernel_rfl) ⟨y3, y5, y2, y4, y6⟩ (fun hHeld => ?_)
              have HN2 := Lib.hid (HN.out v1.drew ((Below.refl _ _).drew))
              have HTd := Lib.hid (HT1.out.drew)
              generalize v1.drew = vd at *
              refine wpAnyH_take (i := 0) (v := ?_) rfl (by kernel_rfl) (by kernel_rfl) (by kernel_rfl) (fun _ _ _ h => h) (Or.inl ⟨by rfl, ?_⟩) hHeld ?_
              rotate_left
              · (intro w hSw; (try dsimp only at hSw); go_simp; try with_reducible rfl)
              try simp only [Act.put, List.setIfInBounds_toArray, List.set_cons_zero, List.set_cons_succ]
              refine wpAnyH_take (i := 1) (v := ?_) rfl (by kernel_rfl) (by kernel_rfl) (by kernel_rfl) (fun _ _ _ h => h) (Or.inl ⟨by rfl, ?_⟩) hHeld ?_
              rotate_left
              · (intro w hSw; (try dsimp only at hSw); go_simp; try with_reducible rfl)
              try simp only [Act.put, List.setIfInBounds_toArray, List.set_cons_zero, List.set_cons_succ]
              refine wpAnyH_take (i := 2) (v := ?_) rfl (by kernel_rfl) (by kernel_rfl) (by kernel_rfl) (fun _ _ _ h => h) (Or.inl ⟨by rfl, ?_⟩) hHeld ?_
              rotate_left
              · (intro w hSw; (try dsimp only at hSw); go_simp; try with_reducible rfl)
              try simp only [Act.put, List.setIfInBounds_toArray, List.set_cons_zero, List.set_cons_succ]
              refine wpAnyH_take (i := 3) (v := ?_) rfl (by kernel_rfl) (by kernel_rfl) (by kernel_rfl) (fun _ _ _ h => h) (Or.inl ⟨by rfl, ?_⟩) hHeld ?_
              rotate_left
              · (intro w hSw; (try dsimp only at hSw); go_simp; try with_reducible rfl)
              try simp only [Act.put, List.setIfInBounds_toArray, List.set_cons_zero, List.set_cons_succ]
              refine wpAnyH_take (i := 4) (v := ?_) rfl (by kernel_rfl) (by kernel_rfl) (by kernel_rfl) (fun _ _ _ h => h) (Or.inl ⟨by rfl, ?_⟩) hHeld ?_
              rotate_left
              · (intro w hSw; (try dsimp only at hSw); go_simp; try with_reducible rfl)
              try simp only [Act.put, List.setIfInBounds_toArray, List.set_cons_zero, List.set_cons_succ]
              refine wpAnyH_take (i := 5) (v := ?_) rfl (by kernel_rfl) (by kernel_rfl) (by kernel_rfl) (fun _ _ _ h => h) (Or.inl ⟨by rfl, ?_⟩) hHeld ?_
              rotate_left
              · (intro w hSw; (try dsimp only at hSw); go_simp; try with_reducible rfl)
              try simp only [Act.put, List.setIfInBounds_toArray, List.set_cons_zero, List.set_cons_succ]
              refine wpAnyH_take (i := 6) (v := ?_) rfl (by kernel_rfl) (by kernel_rfl) (by kernel_rfl) (fun _ _ _ h => h) (Or.inl ⟨by rfl, ?_⟩) hHeld ?_
              rotate_left
              · (intro w hSw; (try dsimp only at hSw); go_simp; try with_reducible rfl)
              try simp only [Act.put, List.setIfInBounds_toArray, List.set_cons_zero, List.set_cons_succ]
              refine wpAnyH_take (i := 8) (v := ?_) rfl (by kernel_rfl) (by kernel_rfl) (by kernel_rfl) (fun _ _ _ h => h) (Or.inl ⟨by rfl, ?_⟩) hHeld ?_
              rotate_left
              · (intro w hSw; (try dsimp only at hSw); go_simp; try with_reducible rfl)
              try simp only [Act.put, List.setIfInBounds_toArray, List.set_cons_zero, List.set_cons_succ]
              refine wpAnyH_take (i := 9) (v := ?_) rfl (by kernel_rfl) (by kernel_rfl) (by kernel_rfl) (fun _ _ _ h => h) (Or.inl ⟨by rfl, ?_⟩) hHeld ?_
              rotate_left
              · (intro w hSw; (try dsimp only at hSw); go_simp; try with_reducible rfl)
              try simp only [Act.put, List.setIfInBounds_toArray, List.set_cons_zero, List.set_cons_succ]
              refine wpAnyH_take (i := 11) (v := ?_) rfl (by kernel_rfl) (by kernel_rfl) (by kernel_rfl) (fun _ _ _ h => h) (Or.inl ⟨by rfl, ?_⟩) hHeld ?_
              rotate_left
              · (intro w hSw; (try dsimp only at hSw); go_simp; try with_reducible rfl)
              try simp only [Act.put, List.setIfInBounds_toArray, List.set_cons_zero, List.set_cons_succ]
              refine wpAnyH_take (i := 12) (v := ?_) rfl (by kernel_rfl) (by kernel_rfl) (by kernel_rfl) (fun _ _ _ h => h) (Or.inl ⟨by rfl, ?_⟩) hHeld ?_
              rotate_left
              · (intro w hSw; (try dsimp only at hSw); go_simp; try with_reducible rfl)
              try simp only [Act.put, List.setIfInBounds_toArray, List.set_cons_zero, List.set_cons_succ]
              refine wpAnyH_ready (rs := [7]) (by kernel_rfl) (by simp) ?_
              refine AllReadyH.cons rfl (fun K hK => ?_) AllReadyH.nil
              go_simp
              refine (flag_any _ s.old).mono ?_
              rintro e vq ⟨rfl, hq⟩
              rw [hq]
              refine hK.out _ _ hHeld (fun hHeld => ?_)
              clear hK K hq
              try simp only [Act.put, List.setIfInBounds_toArray, List.set_cons_zero, List.set_cons_succ]
              refine wpAnyH_ready (rs := [10]) (by kernel_rfl) (by simp) ?_
              refine AllReadyH.cons rfl (fun K hK => ?_) AllReadyH.nil
              go_simp
              refine (flag_any _ s.weak).mono ?_
              rintro e vq ⟨rfl, hq⟩
              rw [hq]
              refine hK.out _ _ hHeld (fun hHeld => ?_)
              clear hK K hq
              try simp only [Act.put, List.setIfInBounds_toArray, List.set_cons_zero, List.set_cons_succ]
              refine wpAnyH_ready (rs := [13]) (by kernel_rfl) (by simp) ?_
              refine AllReadyH.cons rfl (fun K hK => ?_) AllReadyH.nil
              go_simp
              refine (flag_any _ s.defined).mono ?_
              rintro e vq ⟨rfl, hq⟩
              rw [hq]
              refine hK.out _ _ hHeld (fun hHeld => ?_)
              clear hK K hq
              try simp only [Act.put, List.setIfInBounds_toArray, List.set_cons_zero, List.set_cons_succ]
              refine wpAnyH_ready (rs := [14]) (by kernel_rfl) (by simp) ?_
              refine AllReadyH.cons rfl (fun K hK => ?_) AllReadyH.nil
              go_simp
              refine hK.out _ _ (by obtain ⟨h1, h2, h3, h4, h5⟩ := hHeld; exact ⟨(World.cell?_alloc_lt _ _ _ (World.block_lt_of_cell? _ _ h1)).trans h1, (World.cell?_alloc_lt _ _ _ (World.block_lt_of_cell? _ _ h2)).trans h2, (World.cell?_alloc_lt _ _ _ (World.block_lt_of_cell? _ _ h3)).trans h3, (World.cell?_alloc_lt _ _ _ (World.block_lt_of_cell? _ _ h4)).trans h4, (World.cell?_alloc_lt _ _ _ (World.block_lt_of_cell? _ _ h5)).trans h5⟩) (fun _ => ?_)
              clear hK K
              try simp only [Act.put, List.setIfInBounds_toArray, List.set_cons_zero, List.set_cons_succ]
              refine wpAnyH_ready (rs := [15]) (by kernel_rfl) (by simp) ?_
              refine AllReadyH.cons rfl (fun K hK => ?_) AllReadyH.nil
              go_simp
              refine HN2.out.mono ?_
              rintro e v2 ⟨rfl, hw, hs⟩
              have HT2 := Lib.hid (HTd.out.trans hs)
              refine hK.out _ _ (by obtain ⟨h1, h2, h3, h4, h5⟩ := hHeld; exact ⟨(hs.cell (p := ⟨zx, 3, none⟩) (Or.inr rfl)).trans h1, (hs.cell (p := ⟨zx, 5, none⟩) (Or.inr rfl)).trans h2, (hs.cell (p := ⟨zx, 2, none⟩) (Or.inr rfl)).trans h3, (hs.cell (p := ⟨zx, 4, none⟩) (Or.inr rfl)).trans h4, (hs.cell (p := ⟨zx, 6, none⟩) (Or.inr rfl)).trans h5⟩) (fun _ => ?_)
              clear hK K
              try simp only [Act.put, List.setIfInBounds_toArray, List.set_cons_zero, List.set_cons_succ]
              refine wpAnyH_done (by kernel_rfl) ?_ _
              clear hHeld HN2 HTd hs
              obtain ⟨M2, hM2⟩ : ∃ M2, M1 ++ numsL 1 [s.kind, s.vis, oneL s.old, oneL s.weak, oneL s.defined] = M2 := ⟨_, rfl⟩
              rw [hM2] at hw
              have hlM2 : M2.length = M1.length + (numsL 1 [s.kind, s.vis, oneL s.old, oneL s.weak, oneL s.defined]).length := by rw [← hM2, List.length_append]
              simp only [numsL_len, List.length_cons, List.length_nil] at hlM2
              have HE2 := Lib.hid hM2
              have HV2 := Lib.hid hw
              clear hw  HN hM2 y3 y5 y2 y4 y6
              have y7 : v2.cell? ⟨zx, 7, none⟩ = some (.int .i64 s.value) := by rw [Lib.cell_of_heap ((HT2.out.block zx (Or.inr rfl)).trans HX.out)]; rfl
              have y8 : v2.cell? ⟨zx, 8, none⟩ = some (.int .i64 s.size) := by rw [Lib.cell_of_heap ((HT2.out.block zx (Or.inr rfl)).trans HX.out)]; rfl
              have HN := Lib.hid (wnum_built wb (fun x => x < wb ∨ x = zx) v2 M2 8 [s.value, s.size] HV2.out (by decide) (all2 hoks.2.2.2.2.1 hoks.2.2.2.2.2) (by simp only [List.length_cons, List.length_nil, List.length_append, numsL_len, digitsL_len]; omega) (by simp))
              go_wp2_with fail
              refine HN.out.mono ?_
              rintro e v3 ⟨rfl, hw, hs⟩
              have HT3 := Lib.hid (HT2.out.trans hs)
              obtain ⟨M3, hM3⟩ : ∃ M3, M2 ++ numsL 8 [s.value, s.size] = M3 := ⟨_, rfl⟩
              rw [hM3] at hw
              have hlM3 : M3.length = M2.length + (numsL 8 [s.value, s.size]).length := by rw [← hM3, List.length_append]
              simp only [numsL_len, List.length_cons, List.length_nil] at hlM3
              have HE3 := Lib.hid hM3
              have HV3 := Lib.hid hw
              clear hw hs HN hM3 y7 y8
              have Hfin : Hid (L10 ++ ((im.syms.take (q + 1)).map symF).flatten = M3) := Lib.hid (by rw [Hft.out, ← List.append_assoc, HM0.out, ← HE3.out, ← HE2.out, ← HE1.out]; unfold symF textL'; simp only [numsL, textsL, textL', List.map_cons, List.map_nil, List.flatten_cons, List.flatten_nil, List.append_nil, List.append_assoc])
              go_wp2
              go_roundw
              case rel => exact ⟨q + 1, by go_num, by omega, by rw [Hfin.out]; exact HV3.out.less (fun x hx => Or.inl hx), HSx.out.trans (HT3.out.imp (fun x hx => Or.inl hx))⟩
              case measure => simp [intOf]; omega
            · have hall : im.syms.take q = im.syms := List.take_of_length_le (by omega)
              rw [hall] at HM0
              have HL11 : Hid (L10 ++ (im.syms.map symF).flatten = M) := HM0
              have HW11 := HW
              have HS11 := HS
              clear HM0 HW HS hall
              obtain ⟨w11, hw11⟩ : ∃ x : World, x = wr := ⟨_, rfl⟩
              subst hw11
              obtain ⟨L11, hL11⟩ : ∃ x : List UInt8, x = M := ⟨_, rfl⟩
              subst hL11
              have x6 : w11.cell? ⟨w.heap.size, 6, none⟩ = some (.slice a6 im.buckets.length c6) := HC.out HS11.out 6 _ rfl
              have HN := Lib.hid (wnum_built wb (· < wb) w11 L11 2 [(im.buckets.length : Int)] HW11.out (by decide) (all1 (okLen_N (by decide) Hok.out.buckets.1)) (by simp only [List.length_cons, List.length_nil]; omega) (by simp))
              go_wp2_with fail
              refine HN.out.mono ?_
              rintro e w12 ⟨rfl, hw, hs⟩
              have HS12 := Lib.hid (HS11.out.trans hs)
              obtain ⟨L12, hL12⟩ : ∃ L12, L11 ++ numsL 2 [(im.buckets.length : Int)] = L12 := ⟨_, rfl⟩
              have bL12 : L12.length ≤ 29520580 := by rw [← hL12]; simp only [List.length_append, List.length_nil, numsL_len, List.length_cons]; omega
              rw [hL12] at hw
              have HL12 := Lib.hid hL12
              have HW12 := Lib.hid hw
              clear hw hs HN hL12 x6
              have x6 : w12.cell? ⟨w.heap.size, 6, none⟩ = some (.slice a6 im.buckets.length c6) := HC.out HS12.out 6 _ rfl
              obtain ⟨la6, lb6, lo6, lc6, hlv, hlm6, hlc6, hlat⟩ := (HI.out HS12.out).buckets.at
              cases hlv
              have Hat6 := Lib.hid hlat
              clear hlat
              have hF6 : ∀ x ∈ im.buckets, (chainF x).length ≤ 131074 := fun x hx => chainF_len (Hok.out.buckets.2 x hx).1
              have HF6 := Lib.hid hF6
              clear hF6
              have hfew6 : im.buckets.length ≤ 512 := Hfew.out.buckets
              go_wp2_with fail
              clear x6
              go_loopw [13, 159] (fun _ i wr => ∃ q : Nat, i = .int .i64 q ∧ q ≤ im.buckets.length ∧ WB wb (· < wb) wr (L12 ++ ((im.buckets.take q).map chainF).flatten) ∧ Step (· < wb) w2 wr) (fun _ i _ => im.buckets.length - (intOf i).toNat)
              case atStart => exact ⟨0, rfl, Nat.zero_le _, by have h := HW12.out; simpa using h, HS12.out⟩
              case round =>
                obtain ⟨q, rfl, hq, hw, hst⟩ := hrel
                have hfl := flat_take_len chainF 131074 512 im.buckets q HF6.out (by omega)
                obtain ⟨M, hM⟩ : ∃ M, L12 ++ ((im.buckets.take q).map chainF).flatten = M := ⟨_, rfl⟩
                have hMl : M.length ≤ 96630468 := by rw [← hM, List.length_append]; omega
                rw [hM] at hw
                have HM0 := Lib.hid hM
                have HW := Lib.hid hw
                have HS := Lib.hid hst
                clear hw hst hM hfl
                by_cases hlt : q < im.buckets.length
                · obtain rfl := Hat6.out.addr (by omega)
                  obtain ⟨s, hx⟩ : ∃ s, im.buckets[q]? = some s := ⟨_, List.getElem?_eq_getElem hlt⟩
                  have hmem := List.mem_of_getElem? hx
                  have Hft := Lib.hid (flat_take chainF im.buckets q s hx)
                  have hsl := HF6.out s hmem
                  have hkk : Keeps (· < w.heap.size) w12 wr := fun b hb => by have hb : b < w.heap.size := hb; rw [HS.out.block b (show b < wb by omega), HS12.out.block b (show b < wb by omega)]
                  obtain ⟨ev, g0, hev⟩ := (Hat6.out.keeps hkk).ints1 q s hx
                  obtain ⟨ea, ec, rfl⟩ := hev.form
                  have Hev := Lib.hid hev
                  have hoks := Hok.out.buckets.2 s hmem
                  have hov : s.length < 65536 := hoks.1
                  clear hev
                  have HV0 := HW
                  have HT0 : Hid (Step (· < wb) wr wr) := Lib.hid (Step.refl _ _)
                  have HSx := HS
                  have HBX : Hid (∀ b, b < w.heap.size → wr.heap[b]? = wr.heap[b]?) := Lib.hid (fun _ _ => rfl)
                  clear hx
                  have HN := Lib.hid (wnum_built wb (· < wb) wr M 2 [(s.length : Int)] HV0.out (by decide) (all1 (okLen_N (by decide) hoks.1)) (by simp only [List.length_cons, List.length_nil, List.length_append, numsL_len, digitsL_len]; omega) (by simp))
                  go_wp2_with fail
                  refine HN.out.mono ?_
                  rintro e v1 ⟨rfl, hw, hs⟩
                  have HT1 := Lib.hid (HT0.out.trans hs)
                  obtain ⟨M1, hM1⟩ : ∃ M1, M ++ numsL 2 [(s.length : Int)] = M1 := ⟨_, rfl⟩
                  rw [hM1] at hw
                  have hlM1 : M1.length = M.length + (numsL 2 [(s.length : Int)]).length := by rw [← hM1, List.length_append]
                  simp only [numsL_len, List.length_cons, List.length_nil] at hlM1
                  have HE1 := Lib.hid hM1
                  have HV1 := Lib.hid hw
                  clear hw hs HN hM1 
                  have HN := Lib.hid (wnum_any wb (· < wb) v1 M1 2 s (.slice ea s.length ec) HV1.out ((Hev.out.keeps (fun b hb => by have hb : b < w.heap.size := hb; rw [HT1.out.block b (hsub b hb)])).imp (fun x hx => hsub x hx)) (by decide) (hoks.2) (fun n hn => okN_i64 (by decide) (hoks.2 n hn)) (by omega))
                  go_wp2_with fail
                  refine HN.out.mono ?_
                  rintro e v2 ⟨rfl, hw, hs⟩
                  have HT2 := Lib.hid (HT1.out.trans hs)
                  obtain ⟨M2, hM2⟩ : ∃ M2, M1 ++ numsL 2 s = M2 := ⟨_, rfl⟩
                  rw [hM2] at hw
                  have hlM2 : M2.length = M1.length + (numsL 2 s).length := by rw [← hM2, List.length_append]
                  simp only [numsL_len] at hlM2
                  have HE2 := Lib.hid hM2
                  have HV2 := Lib.hid hw
                  clear hw hs HN hM2 
                  have Hfin : Hid (L12 ++ ((im.buckets.take (q + 1)).map chainF).flatten = M2) := Lib.hid (by rw [Hft.out, ← List.append_assoc, HM0.out, ← HE2.out, ← HE1.out]; unfold chainF; simp only [numsL, List.map_cons, List.map_nil, List.flatten_cons, List.flatten_nil, List.append_nil, List.append_assoc])
                  go_wp2
                  go_roundw
                  case rel => exact ⟨q + 1, by go_num, by omega, by rw [Hfin.out]; exact HV2.out.less (fun x hx => hx), HSx.out.trans (HT2.out.imp (fun x hx => hx))⟩
                  case measure => simp [intOf]; omega
                · have hall : im.buckets.take q = im.buckets := List.take_of_length_le (by omega)
                  rw [hall] at HM0
                  have HL13 : Hid (L12 ++ (im.buckets.map chainF).flatten = M) := HM0
                  have HW13 := HW
                  have HS13 := HS
                  clear HM0 HW HS hall
                  obtain ⟨w13, hw13⟩ : ∃ x : World, x = wr := ⟨_, rfl⟩
                  subst hw13
                  obtain ⟨L13, hL13⟩ : ∃ x : List UInt8, x = M := ⟨_, rfl⟩
                  subst hL13
                  have x8 : w13.cell? ⟨w.heap.size, 8, none⟩ = some (.int .i64 im.shift) := HC.out HS13.out 8 _ rfl
                  have x7 : w13.cell? ⟨w.heap.size, 7, none⟩ = some (.slice a7 im.words.length c7) := HC.out HS13.out 7 _ rfl
                  have HN := Lib.hid (wnum_built wb (· < wb) w13 L13 1 [im.shift, (im.words.length : Int)] HW13.out (by decide) (all2 Hok.out.shift (okLen_N (by decide) Hok.out.words.1)) (by simp only [List.length_cons, List.length_nil]; omega) (by simp))
                  go_wp2_with fail
                  refine HN.out.mono ?_
                  rintro e w14 ⟨rfl, hw, hs⟩
                  have HS14 := Lib.hid (HS13.out.trans hs)
                  obtain ⟨L14, hL14⟩ : ∃ L14, L13 ++ numsL 1 [im.shift, (im.words.length : Int)] = L14 := ⟨_, rfl⟩
                  have bL14 : L14.length ≤ 96630470 := by rw [← hL14]; simp only [List.length_append, List.length_nil, numsL_len, List.length_cons]; omega
                  rw [hL14] at hw
                  have HL14 := Lib.hid hL14
                  have HW14 := Lib.hid hw
                  clear hw hs HN hL14 x8 x7
                  have x7 : w14.cell? ⟨w.heap.size, 7, none⟩ = some (.slice a7 im.words.length c7) := HC.out HS14.out 7 _ rfl
                  obtain ⟨la7, lb7, lo7, lc7, hlv, hlm7, hlc7, hlat⟩ := (HI.out HS14.out).words.at
                  cases hlv
                  have Hat7 := Lib.hid hlat
                  clear hlat
                  have hF7 : ∀ x ∈ im.words, ((digitsL 8) x).length ≤ 8 := fun x _ => by rw [digitsL_len]; decide
                  have HF7 := Lib.hid hF7
                  clear hF7
                  have hfew7 : im.words.length ≤ 64 := Hfew.out.words
                  go_wp2_with fail
                  clear x7
                  go_loopw [15, 189] (fun _ i wr => ∃ q : Nat, i = .int .i64 q ∧ q ≤ im.words.length ∧ WB wb (· < wb) wr (L14 ++ ((im.words.take q).map (digitsL 8)).flatten) ∧ Step (· < wb) w2 wr) (fun _ i _ => im.words.length - (intOf i).toNat)
                  case atStart => exact ⟨0, rfl, Nat.zero_le _, by have h := HW14.out; simpa using h, HS14.out⟩
                  case round =>
                    obtain ⟨q, rfl, hq, hw, hst⟩ := hrel
                    have hfl := flat_take_len (digitsL 8) 8 64 im.words q HF7.out (by omega)
                    obtain ⟨M, hM⟩ : ∃ M, L14 ++ ((im.words.take q).map (digitsL 8)).flatten = M := ⟨_, rfl⟩
                    have hMl : M.length ≤ 96630982 := by rw [← hM, List.length_append]; omega
                    rw [hM] at hw
                    have HM0 := Lib.hid hM
                    have HW := Lib.hid hw
                    have HS := Lib.hid hst
                    clear hw hst hM hfl
                    by_cases hlt : q < im.words.length
                    · obtain rfl := Hat7.out.addr (by omega)
                      obtain ⟨s, hx⟩ : ∃ s, im.words[q]? = some s := ⟨_, List.getElem?_eq_getElem hlt⟩
                      have hmem := List.mem_of_getElem? hx
                      have Hft := Lib.hid (flat_take (digitsL 8) im.words q s hx)
                      have hsl := HF7.out s hmem
                      have hkk : Keeps (· < w.heap.size) w14 wr := fun b hb => by have hb : b < w.heap.size := hb; rw [HS.out.block b (show b < wb by omega), HS14.out.block b (show b < wb by omega)]
                      have g0 := (Hat7.out.keeps hkk).word1 q s hx
                      have hoks := Hok.out.words.2 s hmem
                      have HV0 := HW
                      have HT0 : Hid (Step (· < wb) wr wr) := Lib.hid (Step.refl _ _)
                      have HSx := HS
                      have HBX : Hid (∀ b, b < w.heap.size → wr.heap[b]? = wr.heap[b]?) := Lib.hid (fun _ _ => rfl)
                      clear hx
                      have HN := Lib.hid (wnum_built wb (· < wb) wr M 8 [wrap64 s] HV0.out (by decide) (all1 (okN_wrap s)) (by simp only [List.length_cons, List.length_nil, List.length_append, numsL_len, digitsL_len]; omega) (by simp))
                      go_wp2_with fail
                      refine HN.out.mono ?_
                      rintro e v1 ⟨rfl, hw, hs⟩
                      have HT1 := Lib.hid (HT0.out.trans hs)
                      obtain ⟨M1, hM1⟩ : ∃ M1, M ++ numsL 8 [wrap64 s] = M1 := ⟨_, rfl⟩
                      rw [hM1] at hw
                      have hlM1 : M1.length = M.length + (numsL 8 [wrap64 s]).length := by rw [← hM1, List.length_append]
                      simp only [numsL_len, List.length_cons, List.length_nil] at hlM1
                      have HE1 := Lib.hid hM1
                      have HV1 := Lib.hid hw
                      clear hw hs HN hM1 
                      have Hfin : Hid (L14 ++ ((im.words.take (q + 1)).map (digitsL 8)).flatten = M1) := Lib.hid (by rw [Hft.out, ← List.append_assoc, HM0.out, ← HE1.out]; simp only [numsL, List.map_cons, List.map_nil, List.flatten_cons, List.flatten_nil, List.append_nil, List.append_assoc, digitsL_wrap64])
                      go_wp2
                      go_roundw
                      case rel => exact ⟨q + 1, by go_num, by omega, by rw [Hfin.out]; exact HV1.out.less (fun x hx => hx), HSx.out.trans (HT1.out.imp (fun x hx => hx))⟩
                      case measure => simp [intOf]; omega
                    · have hall : im.words.take q = im.words := List.take_of_length_le (by omega)
                      rw [hall] at HM0
                      have HL15 : Hid (L14 ++ (im.words.map (digitsL 8)).flatten = M) := HM0
                      have HW15 := HW
                      have HS15 := HS
                      clear HM0 HW HS hall
                      obtain ⟨w15, hw15⟩ : ∃ x : World, x = wr := ⟨_, rfl⟩
                      subst hw15
                      obtain ⟨L15, hL15⟩ : ∃ x : List UInt8, x = M := ⟨_, rfl⟩
                      subst hL15
                      have x9 : w15.cell? ⟨w.heap.size, 9, none⟩ = some (.slice a9 im.relocs.length c9) := HC.out HS15.out 9 _ rfl
                      have HN := Lib.hid (wnum_built wb (· < wb) w15 L15 2 [(im.relocs.length : Int)] HW15.out (by decide) (all1 (okLen_N (by decide) Hok.out.relocs.1)) (by simp only [List.length_cons, List.length_nil]; omega) (by simp))
                      go_wp2_with fail
                      refine HN.out.mono ?_
                      rintro e w16 ⟨rfl, hw, hs⟩
                      have HS16 := Lib.hid (HS15.out.trans hs)
                      obtain ⟨L16, hL16⟩ : ∃ L16, L15 ++ numsL 2 [(im.relocs.length : Int)] = L16 := ⟨_, rfl⟩
                      have bL16 : L16.length ≤ 96630984 := by rw [← hL16]; simp only [List.length_append, List.length_nil, numsL_len, List.length_cons]; omega
                      rw [hL16] at hw
                      have HL16 := Lib.hid hL16
                      have HW16 := Lib.hid hw
                      clear hw hs HN hL16 x9
                      have x9 : w16.cell? ⟨w.heap.size, 9, none⟩ = some (.slice a9 im.relocs.length c9) := HC.out HS16.out 9 _ rfl
                      obtain ⟨la9, lb9, lo9, lc9, hlv, hlm9, hlc9, hlat⟩ := (HI.out HS16.out).relocs.at
                      cases hlv
                      have Hat9 := Lib.hid hlat
                      clear hlat
                      have hF9 : ∀ x ∈ im.relocs, (relF x).length ≤ 25 := fun x _ => relF_len x
                      have HF9 := Lib.hid hF9
                      clear hF9
                      have hfew9 : im.relocs.length ≤ 512 := Hfew.out.relocs
                      go_wp2_with fail
                      clear x9
                      go_loopw [208] (fun  i wr => ∃ q : Nat, i = .int .i64 q ∧ q ≤ im.relocs.length ∧ WB wb (· < wb) wr (L16 ++ ((im.relocs.take q).map relF).flatten) ∧ Step (· < wb) w2 wr) (fun  i _ => im.relocs.length - (intOf i).toNat)
                      case atStart => exact ⟨0, rfl, Nat.zero_le _, by have h := HW16.out; simpa using h, HS16.out⟩
                      case round =>
                        obtain ⟨q, rfl, hq, hw, hst⟩ := hrel
                        have hfl := flat_take_len relF 25 512 im.relocs q HF9.out (by omega)
                        obtain ⟨M, hM⟩ : ∃ M, L16 ++ ((im.relocs.take q).map relF).flatten = M := ⟨_, rfl⟩
                        have hMl : M.length ≤ 96643784 := by rw [← hM, List.length_append]; omega
                        rw [hM] at hw
                        have HM0 := Lib.hid hM
                        have HW := Lib.hid hw
                        have HS := Lib.hid hst
                        clear hw hst hM hfl
                        by_cases hlt : q < im.relocs.length
                        · obtain rfl := Hat9.out.addr (by omega)
                          obtain ⟨s, hx⟩ : ∃ s, im.relocs[q]? = some s := ⟨_, List.getElem?_eq_getElem hlt⟩
                          have hmem := List.mem_of_getElem? hx
                          have Hft := Lib.hid (flat_take relF im.relocs q s hx)
                          have hsl := HF9.out s hmem
                          have hkk : Keeps (· < w.heap.size) w16 wr := fun b hb => by have hb : b < w.heap.size := hb; rw [HS.out.block b (show b < wb by omega), HS16.out.block b (show b < wb by omega)]
                          obtain ⟨g0, g1, g2, g3⟩ := (Hat9.out.keeps hkk).rel4 q s hx
                          have hoks := Hok.out.relocs.2 s hmem
                          have HSx := Lib.hid (HS.out.trans (Step.later ((Below.refl _ wr).alloc (Nat.le_refl _) (.cells #[.int .i64 s.at_, .int .i64 s.kind, .int .i64 s.sym, .int .i64 s.add] 57 (0, 0))) (fun x hx => HW.out.inS hx)))
                          have HWx := Lib.hid (HW.out.alloc (.cells #[.int .i64 s.at_, .int .i64 s.kind, .int .i64 s.sym, .int .i64 s.add] 57 (0, 0)))
                          have HX := Lib.hid (heap_alloc_new wr (.cells #[.int .i64 s.at_, .int .i64 s.kind, .int .i64 s.sym, .int .i64 s.add] 57 (0, 0)))
                          have hzx : wr.heap.size < (wr.alloc (.cells #[.int .i64 s.at_, .int .i64 s.kind, .int .i64 s.sym, .int .i64 s.add] 57 (0, 0))).heap.size := by simp
                          have HBX0 := Lib.hid (fun b (hb : b < w.heap.size) => heap_alloc_old wr (.cells #[.int .i64 s.at_, .int .i64 s.kind, .int .i64 s.sym, .int .i64 s.add] 57 (0, 0)) (r := b) (by have := HW.out.lt; omega))
                          clear hx
                          go_upto_region 49 with fail
                          generalize wr.alloc (.cells #[.int .i64 s.at_, .int .i64 s.kind, .int .i64 s.sym, .int .i64 s.add] 57 (0, 0)) = v0 at *
                          generalize wr.heap.size = zx at *
                          have HV0 := Lib.hid (HWx.out)
                          have HT0 : Hid (Step (fun x => x < wb ∨ x = zx) v0 v0) := Lib.hid (Step.refl _ _)
                          clear HWx
                          have HBX := Lib.hid (fun b (hb : b < w.heap.size) => HBX0.out b hb)
                          have y1 : v0.cell? ⟨zx, 1, none⟩ = some (.int .i64 s.kind) := by rw [Lib.cell_of_heap ((HT0.out.block zx (Or.inr rfl)).trans HX.out)]; rfl
                          have HN := Lib.hid (wnum_built wb (fun x => x < wb ∨ x = zx) v0 M 1 [s.kind] HV0.out (by decide) (all1 hoks.1) (by simp only [List.length_cons, List.length_nil, List.length_append, numsL_len, digitsL_len]; omega) (by simp))
                          go_wp2_with fail
                          refine HN.out.mono ?_
                          rintro e v1 ⟨rfl, hw, hs⟩
                          have HT1 := Lib.hid (HT0.out.trans hs)
                          obtain ⟨M1, hM1⟩ : ∃ M1, M ++ numsL 1 [s.kind] = M1 := ⟨_, rfl⟩
                          rw [hM1] at hw
                          have hlM1 : M1.length = M.length + (numsL 1 [s.kind]).length := by rw [← hM1, List.length_append]
                          simp only [numsL_len, List.length_cons, List.length_nil] at hlM1
                          have HE1 := Lib.hid hM1
                          have HV1 := Lib.hid hw
                          clear hw hs HN hM1 y1
                          have y0 : v1.cell? ⟨zx, 0, none⟩ = some (.int .i64 s.at_) := by rw [Lib.cell_of_heap ((HT1.out.block zx (Or.inr rfl)).trans HX.out)]; rfl
                          have y2 : v1.cell? ⟨zx, 2, none⟩ = some (.int .i64 s.sym) := by rw [Lib.cell_of_heap ((HT1.out.block zx (Or.inr rfl)).trans HX.out)]; rfl
                          have y3 : v1.cell? ⟨zx, 3, none⟩ = some (.int .i64 s.add) := by rw [Lib.cell_of_heap ((HT1.out.block zx (Or.inr rfl)).trans HX.out)]; rfl
                          have HN := Lib.hid (wnum_built wb (fun x => x < wb ∨ x = zx) v1 M1 8 [s.at_, s.sym, s.add] HV1.out (by decide) (all3 hoks.2.1 hoks.2.2.1 hoks.2.2.2) (by simp only [List.length_cons, List.length_nil, List.length_append, numsL_len, digitsL_len]; omega) (by simp))
                          go_wp2_with fail
                          refine HN.out.mono ?_
                          rintro e v2 ⟨rfl, hw, hs⟩
                          have HT2 := Lib.hid (HT1.out.trans hs)
                          obtain ⟨M2, hM2⟩ : ∃ M2, M1 ++ numsL 8 [s.at_, s.sym, s.add] = M2 := ⟨_, rfl⟩
                          rw [hM2] at hw
                          have hlM2 : M2.length = M1.length + (numsL 8 [s.at_, s.sym, s.add]).length := by rw [← hM2, List.length_append]
                          simp only [numsL_len, List.length_cons, List.length_nil] at hlM2
                          have HE2 := Lib.hid hM2
                          have HV2 := Lib.hid hw
                          clear hw hs HN hM2 y0 y2 y3
                          have Hfin : Hid (L16 ++ ((im.relocs.take (q + 1)).map relF).flatten = M2) := Lib.hid (by rw [Hft.out, ← List.append_assoc, HM0.out, ← HE2.out, ← HE1.out]; unfold relF; simp only [numsL, List.map_cons, List.map_nil, List.flatten_cons, List.flatten_nil, List.append_nil, List.append_assoc])
                          go_wp2
                          go_roundw
                          case rel => exact ⟨q + 1, by go_num, by omega, by rw [Hfin.out]; exact HV2.out.less (fun x hx => Or.inl hx), HSx.out.trans (HT2.out.imp (fun x hx => Or.inl hx))⟩
                          case measure => simp [intOf]; omega
                        · have hall : im.relocs.take q = im.relocs := List.take_of_length_le (by omega)
                          rw [hall] at HM0
                          have HL17 : Hid (L16 ++ (im.relocs.map relF).flatten = M) := HM0
                          have HW17 := HW
                          have HS17 := HS
                          clear HM0 HW HS hall
                          obtain ⟨w17, hw17⟩ : ∃ x : World, x = wr := ⟨_, rfl⟩
                          subst hw17
                          obtain ⟨L17, hL17⟩ : ∃ x : List UInt8, x = M := ⟨_, rfl⟩
                          subst hL17
                          have x10 : w17.cell? ⟨w.heap.size, 10, none⟩ = some (.slice a10 im.slots.length c10) := HC.out HS17.out 10 _ rfl
                          have HN := Lib.hid (wnum_built wb (· < wb) w17 L17 2 [(im.slots.length : Int)] HW17.out (by decide) (all1 (okLen_N (by decide) Hok.out.slots.1)) (by simp only [List.length_cons, List.length_nil]; omega) (by simp))
                          go_wp2_with fail
                          refine HN.out.mono ?_
                          rintro e w18 ⟨rfl, hw, hs⟩
                          have HS18 := Lib.hid (HS17.out.trans hs)
                          obtain ⟨L18, hL18⟩ : ∃ L18, L17 ++ numsL 2 [(im.slots.length : Int)] = L18 := ⟨_, rfl⟩
                          have bL18 : L18.length ≤ 96643786 := by rw [← hL18]; simp only [List.length_append, List.length_nil, numsL_len, List.length_cons]; omega
                          rw [hL18] at hw
                          have HL18 := Lib.hid hL18
                          have HW18 := Lib.hid hw
                          clear hw hs HN hL18 x10
                          have x10 : w18.cell? ⟨w.heap.size, 10, none⟩ = some (.slice a10 im.slots.length c10) := HC.out HS18.out 10 _ rfl
                          obtain ⟨la10, lb10, lo10, lc10, hlv, hlm10, hlc10, hlat⟩ := (HI.out HS18.out).slots.at
                          cases hlv
                          have Hat10 := Lib.hid hlat
                          clear hlat
                          have hF10 : ∀ x ∈ im.slots, (slotF x).length ≤ 12 := fun x _ => slotF_len x
                          have HF10 := Lib.hid hF10
                          clear hF10
                          have hfew10 : im.slots.length ≤ 128 := Hfew.out.slots
                          go_wp2_with fail
                          clear x10
                          go_loopw [236] (fun  i wr => ∃ q : Nat, i = .int .i64 q ∧ q ≤ im.slots.length ∧ WB wb (· < wb) wr (L18 ++ ((im.slots.take q).map slotF).flatten) ∧ Step (· < wb) w2 wr) (fun  i _ => im.slots.length - (intOf i).toNat)
                          case atStart => exact ⟨0, rfl, Nat.zero_le _, by have h := HW18.out; simpa using h, HS18.out⟩
                          case round =>
                            obtain ⟨q, rfl, hq, hw, hst⟩ := hrel
                            have hfl := flat_take_len slotF 12 128 im.slots q HF10.out (by omega)
                            obtain ⟨M, hM⟩ : ∃ M, L18 ++ ((im.slots.take q).map slotF).flatten = M := ⟨_, rfl⟩
                            have hMl : M.length ≤ 96645322 := by rw [← hM, List.length_append]; omega
                            rw [hM] at hw
                            have HM0 := Lib.hid hM
                            have HW := Lib.hid hw
                            have HS := Lib.hid hst
                            clear hw hst hM hfl
                            by_cases hlt : q < im.slots.length
                            · obtain rfl := Hat10.out.addr (by omega)
                              obtain ⟨s, hx⟩ : ∃ s, im.slots[q]? = some s := ⟨_, List.getElem?_eq_getElem hlt⟩
                              have hmem := List.mem_of_getElem? hx
                              have Hft := Lib.hid (flat_take slotF im.slots q s hx)
                              have hsl := HF10.out s hmem
                              have hkk : Keeps (· < w.heap.size) w18 wr := fun b hb => by have hb : b < w.heap.size := hb; rw [HS.out.block b (show b < wb by omega), HS18.out.block b (show b < wb by omega)]
                              obtain ⟨g0, g1, g2⟩ := (Hat10.out.keeps hkk).slot3 q s hx
                              have hoks := Hok.out.slots.2 s hmem
                              have HSx := Lib.hid (HS.out.trans (Step.later ((Below.refl _ wr).alloc (Nat.le_refl _) (.cells #[.int .i64 s.at_, .int .i64 s.sym, .int .i64 s.stub] 69 (0, 0))) (fun x hx => HW.out.inS hx)))
                              have HWx := Lib.hid (HW.out.alloc (.cells #[.int .i64 s.at_, .int .i64 s.sym, .int .i64 s.stub] 69 (0, 0)))
                              have HX := Lib.hid (heap_alloc_new wr (.cells #[.int .i64 s.at_, .int .i64 s.sym, .int .i64 s.stub] 69 (0, 0)))
                              have hzx : wr.heap.size < (wr.alloc (.cells #[.int .i64 s.at_, .int .i64 s.sym, .int .i64 s.stub] 69 (0, 0))).heap.size := by simp
                              have HBX0 := Lib.hid (fun b (hb : b < w.heap.size) => heap_alloc_old wr (.cells #[.int .i64 s.at_, .int .i64 s.sym, .int .i64 s.stub] 69 (0, 0)) (r := b) (by have := HW.out.lt; omega))
                              clear hx
                              go_upto_region 56 with fail
                              generalize wr.alloc (.cells #[.int .i64 s.at_, .int .i64 s.sym, .int .i64 s.stub] 69 (0, 0)) = v0 at *
                              generalize wr.heap.size = zx at *
                              have HV0 := Lib.hid (HWx.out)
                              have HT0 : Hid (Step (fun x => x < wb ∨ x = zx) v0 v0) := Lib.hid (Step.refl _ _)
                              clear HWx
                              have HBX := Lib.hid (fun b (hb : b < w.heap.size) => HBX0.out b hb)
                              have y0 : v0.cell? ⟨zx, 0, none⟩ = some (.int .i64 s.at_) := by rw [Lib.cell_of_heap ((HT0.out.block zx (Or.inr rfl)).trans HX.out)]; rfl
                              have y1 : v0.cell? ⟨zx, 1, none⟩ = some (.int .i64 s.sym) := by rw [Lib.cell_of_heap ((HT0.out.block zx (Or.inr rfl)).trans HX.out)]; rfl
                              have y2 : v0.cell? ⟨zx, 2, none⟩ = some (.int .i64 s.stub) := by rw [Lib.cell_of_heap ((HT0.out.block zx (Or.inr rfl)).trans HX.out)]; rfl
                              have HN := Lib.hid (wnum_built wb (fun x => x < wb ∨ x = zx) v0 M 4 [s.at_, s.sym, s.stub] HV0.out (by decide) (all3 hoks.1 hoks.2.1 hoks.2.2) (by simp only [List.length_cons, List.length_nil, List.length_append, numsL_len, digitsL_len]; omega) (by simp))
                              go_wp2_with fail
                              refine HN.out.mono ?_
                              rintro e v1 ⟨rfl, hw, hs⟩
                              have HT1 := Lib.hid (HT0.out.trans hs)
                              obtain ⟨M1, hM1⟩ : ∃ M1, M ++ numsL 4 [s.at_, s.sym, s.stub] = M1 := ⟨_, rfl⟩
                              rw [hM1] at hw
                              have hlM1 : M1.length = M.length + (numsL 4 [s.at_, s.sym, s.stub]).length := by rw [← hM1, List.length_append]
                              simp only [numsL_len, List.length_cons, List.length_nil] at hlM1
                              have HE1 := Lib.hid hM1
                              have HV1 := Lib.hid hw
                              clear hw hs HN hM1 y0 y1 y2
                              have Hfin : Hid (L18 ++ ((im.slots.take (q + 1)).map slotF).flatten = M1) := Lib.hid (by rw [Hft.out, ← List.append_assoc, HM0.out, ← HE1.out]; unfold slotF; simp only [numsL, List.map_cons, List.map_nil, List.flatten_cons, List.flatten_nil, List.append_nil, List.append_assoc])
                              go_wp2
                              go_roundw
                              case rel => exact ⟨q + 1, by go_num, by omega, by rw [Hfin.out]; exact HV1.out.less (fun x hx => Or.inl hx), HSx.out.trans (HT1.out.imp (fun x hx => Or.inl hx))⟩
                              case measure => simp [intOf]; omega
                            · have hall : im.slots.take q = im.slots := List.take_of_length_le (by omega)
                              rw [hall] at HM0
                              have HL19 : Hid (L18 ++ (im.slots.map slotF).flatten = M) := HM0
                              have HW19 := HW
                              have HS19 := HS
                              clear HM0 HW HS hall
                              obtain ⟨w19, hw19⟩ : ∃ x : World, x = wr := ⟨_, rfl⟩
                              subst hw19
                              obtain ⟨L19, hL19⟩ : ∃ x : List UInt8, x = M := ⟨_, rfl⟩
                              subst hL19
                              have x11 : w19.cell? ⟨w.heap.size, 11, none⟩ = some (.slice a11 im.init.length c11) := HC.out HS19.out 11 _ rfl
                              have x12 : w19.cell? ⟨w.heap.size, 12, none⟩ = some (.slice a12 im.fini.length c12) := HC.out HS19.out 12 _ rfl
                              have HWr := Lib.hid (HW19.out.alloc (.cells #[.slice a11 im.init.length c11, .slice a12 im.fini.length c12] 35 (0, 0)))
                              have HXr := Lib.hid (heap_alloc_new w19 (.cells #[.slice a11 im.init.length c11, .slice a12 im.fini.length c12] 35 (0, 0)))
                              have HSr := Lib.hid (HS19.out.trans (Step.later ((Below.refl _ w19).alloc (Nat.le_refl _) (.cells #[.slice a11 im.init.length c11, .slice a12 im.fini.length c12] 35 (0, 0))) (fun x hx => HW19.out.inS hx)))
                              have hzr : w19.heap.size < (w19.alloc (.cells #[.slice a11 im.init.length c11, .slice a12 im.fini.length c12] 35 (0, 0))).heap.size := by simp
                              go_upto_region 59 with fail
                              generalize w19.alloc (.cells #[.slice a11 im.init.length c11, .slice a12 im.fini.length c12] 35 (0, 0)) = wa at *
                              generalize w19.heap.size = zr at *
                              go_wp2_with fail
                              go_loopw [21, 256] (fun _ i wr => ∃ q : Nat, i = .int .i64 q ∧ q ≤ 2 ∧ WB wb (fun x => x < wb ∨ x = zr) wr (L19 ++ runsF im q) ∧ Step (fun x => x < wb ∨ x = zr) wa wr) (fun _ i _ => 2 - (intOf i).toNat)
                              case atStart => exact ⟨0, rfl, by decide, by have h := HWr.out; simpa [runsF] using h, Step.refl _ _⟩
                              case round =>
                                obtain ⟨q, rfl, hq, hw, hst⟩ := hrel
                                have hrl := runsF_len im q Hok.out
                                obtain ⟨M, hM⟩ : ∃ M, L19 ++ runsF im q = M := ⟨_, rfl⟩
                                have hMl : M.length ≤ 96647372 := by rw [← hM, List.length_append]; omega
                                rw [hM] at hw
                                have HM0 := Lib.hid hM
                                have HW := Lib.hid hw
                                have HS := Lib.hid hst
                                have hzx := (hst.block zr (Or.inr rfl)).trans HXr.out
                                have HIr := Lib.hid (HI.out (HSr.out.trans (hst.imp (fun x hx => Or.inl hx))))
                                clear hw hst hM hrl
                                by_cases hlt : q < 2
                                · obtain ⟨s, ea, ec, hcell, hev, hl1, hoks, hrf⟩ : ∃ (s : List Int) (ea : Option Addr) (ec : Nat), wr.cell? ⟨zr, q, none⟩ = some (.slice ea s.length ec) ∧ LB kInt (· < w.heap.size) wr (.slice ea s.length ec) s ∧ okLen 1 s.length ∧ (∀ x ∈ s, okN 4 x) ∧ runsF im (q + 1) = runsF im q ++ (digitsL 1 s.length ++ numsL 4 s) := by
                                    have hq2 : q = 0 ∨ q = 1 := by omega
                                    rcases hq2 with rfl | rfl
                                    · exact ⟨im.init, _, _, (by rw [Lib.cell_of_heap hzx]; rfl), HIr.out.init, Hok.out.init.1, Hok.out.init.2, by simp [runsF]⟩
                                    · exact ⟨im.fini, _, _, (by rw [Lib.cell_of_heap hzx]; rfl), HIr.out.fini, Hok.out.fini.1, Hok.out.fini.2, by simp [runsF]⟩
                                  have Hev := Lib.hid hev
                                  have Hrf := Lib.hid hrf
                                  have hl2 : s.length < 256 := hl1
                                  have HN := Lib.hid (wnum_built wb (fun x => x < wb ∨ x = zr) wr M 1 [(s.length : Int)] HW.out (by decide) (all1 (okLen_N (by decide) hl1)) (by simp only [List.length_cons, List.length_nil]; omega) (by simp))
                                  clear hev hrf hzx HIr
                                  go_wp2_with fail
                                  refine HN.out.mono ?_
                                  rintro e v1 ⟨rfl, hw, hs⟩
                                  have HT1 := Lib.hid hs
                                  have HV1 := Lib.hid hw
                                  have hl4 := numsL_len 1 [(s.length : Int)]
                                  simp only [List.length_cons, List.length_nil] at hl4
                                  have HN2 := Lib.hid (wnum_any wb (fun x => x < wb ∨ x = zr) v1 _ 4 s (.slice ea s.length ec) HV1.out ((Hev.out.keeps (fun b hb => by have hb : b < w.heap.size := hb; rw [HT1.out.block b (Or.inl (hsub b hb))])).imp (fun x hx => Or.inl (hsub x hx))) (by decide) hoks (fun n hn => okN_i64 (by decide) (hoks n hn)) (by rw [List.length_append]; omega))
                                  clear hw hs HN hcell
                                  go_wp2_with fail
                                  refine HN2.out.mono ?_
                                  rintro e v2 ⟨rfl, hw, hs⟩
                                  have HT2 := Lib.hid (HT1.out.trans hs)
                                  have Hfin : Hid (WB wb (fun x => x < wb ∨ x = zr) v2 (L19 ++ runsF im (q + 1))) := Lib.hid (by
                                    rw [Hrf.out, ← List.append_assoc, HM0.out, ← List.append_assoc, ← numsL_one]; exact hw)
                                  clear hw hs HN2
                                  go_wp2
                                  go_roundw
                                  case rel => exact ⟨q + 1, by go_num, by omega, Hfin.out, HS.out.trans HT2.out⟩
                                  case measure => simp [intOf]; omega
                                · have hq2 : q = 2 := by omega
                                  rw [hq2] at HM0
                                  have HL20 := HM0
                                  have HW20 := Lib.hid (HW.out.less (S' := (· < wb)) (fun x hx => Or.inl hx))
                                  have HS20 := Lib.hid (HSr.out.trans (HS.out.imp (S' := (· < wb)) (fun x hx => Or.inl hx)))
                                  clear HM0 HW HS hzx HIr
                                  obtain ⟨w20, hw20⟩ : ∃ x : World, x = wr := ⟨_, rfl⟩
                                  subst hw20
                                  obtain ⟨L20, hL20⟩ : ∃ x : List UInt8, x = M := ⟨_, rfl⟩
                                  subst hL20
                                  have x14 : w20.cell? ⟨w.heap.size, 14, none⟩ = some (.int .i64 im.tlsSize) := HC.out HS20.out 14 _ rfl
                                  have HN := Lib.hid (wnum_built wb (· < wb) w20 L20 2 [im.tlsSize] HW20.out (by decide) (all1 Hok.out.tlsSize) (by simp only [List.length_cons, List.length_nil]; omega) (by simp))
                                  go_wp2_with fail
                                  refine HN.out.mono ?_
                                  rintro e w21 ⟨rfl, hw, hs⟩
                                  have HS21 := Lib.hid (HS20.out.trans hs)
                                  obtain ⟨L21, hL21⟩ : ∃ L21, L20 ++ numsL 2 [im.tlsSize] = L21 := ⟨_, rfl⟩
                                  have bL21 : L21.length ≤ 96647374 := by rw [← hL21]; simp only [List.length_append, List.length_nil, numsL_len, List.length_cons]; omega
                                  rw [hL21] at hw
                                  have HL21 := Lib.hid hL21
                                  have HW21 := Lib.hid hw
                                  clear hw hs HN hL21 x14
                                  have x13 : w21.cell? ⟨w.heap.size, 13, none⟩ = some (.slice a13 im.tls.length c13) := HC.out HS21.out 13 _ rfl
                                  have htl : im.tls.length ≤ 1048576 := Hok.out.tls
                                  have hpl : (blockL im.tls).length = 4 + im.tls.length := by unfold blockL; rw [List.length_append, digitsL_len]
                                  have HN := Lib.hid (wblock_any wb (· < wb) w21 L21 im.tls _ HW21.out ((HI.out HS21.out).tls.imp (fun x hx => hsub x hx)) htl (by omega))
                                  go_wp2_with fail
                                  refine HN.out.mono ?_
                                  rintro e w22 ⟨rfl, hw, hs⟩
                                  have HS22 := Lib.hid (HS21.out.trans hs)
                                  obtain ⟨L22, hL22⟩ : ∃ L22, L21 ++ blockL im.tls = L22 := ⟨_, rfl⟩
                                  have bL22 : L22.length ≤ 97695954 := by rw [← hL22]; simp only [List.length_append, List.length_nil, numsL_len, List.length_cons]; omega
                                  rw [hL22] at hw
                                  have HL22 := Lib.hid hL22
                                  have HW22 := Lib.hid hw
                                  clear hw hs HN hL22 x13
                                  have Hfin : Hid (L22 = formL im) := Lib.hid (by
                                    rw [← HL22.out, ← HL21.out, ← HL20.out, ← HL19.out, ← HL18.out, ← HL17.out, ← HL16.out, ← HL15.out, ← HL14.out, ← HL13.out, ← HL12.out, ← HL11.out, ← HL10.out, ← HL9.out, ← HL8.out, ← HL7.out, ← HL6.out, ← HL5.out, ← HL4.out, ← HL3.out]
                                    rw [← formR_eq]
                                    unfold formR runsF magicL
                                    simp only [numsL, textsL, textL', List.map_cons, List.map_nil, List.flatten_cons, List.flatten_nil, List.append_nil, List.nil_append, List.append_assoc, List.take_succ_cons, List.take_zero, List.take_nil, List.length_cons, List.length_nil])
                                  have HN := Lib.hid (wbytes_any wb (· < wb) w22 L22 HW22.out (by omega))
                                  go_wp2_with fail
                                  refine HN.out.mono ?_
                                  rintro e wz ⟨r, rfl, hown, hbz⟩
                                  have Hown : Hid (OwnK 5 kByte w.heap.size (fun _ => False) wz r (formL im)) := Lib.hid (by rw [← Hfin.out]; exact hown.mono (by have := HS22.out.size; omega))
                                  have Hbz : Hid (Below w.heap.size w wz) := Lib.hid ((B2.out.trans (HS22.out.imp (fun x hx => hsub x hx)).below).trans (hbz.mono (by have := HS22.out.size; omega)))
                                  clear hown hbz HN
                                  go_wp2
                                  go_ret2
                                  exact ⟨r, by rw [Hm0.out]; rfl, Hbz.out, fun h => absurd Hm0.out h, fun _ => Hown.out⟩

end Go.Proofs.Ytbliedldlimpgaa

namespace Go.Proofs.Ytbliedldlimpgaa
set_option linter.unusedVariables false
set_option linter.unusedSimpArgs false
open Go.RowKit

def relV (s b c r : Value) : ImgV := ⟨s, .slice none 0 0, .slice none 0 0, .slice none 0 0, b, c, r, .slice none 0 0, .slice none 0 0, .slice none 0 0, .slice none 0 0⟩
def relImg : ImgL := { leastL with relocs := [⟨0, 1, -1, 0⟩] }
def noneImg : ImgL := ⟨[], 0, [], [], [], [], [], [], 0, [], [], [], [], [], 0⟩
def noneV : ImgV := ⟨.slice none 0 0, .slice none 0 0, .slice none 0 0, .slice none 0 0, .slice none 0 0, .slice none 0 0, .slice none 0 0, .slice none 0 0, .slice none 0 0, .slice none 0 0, .slice none 0 0⟩
theorem imgM_none (S : Nat → Prop) (w : World) : ImgM S w noneV noneImg where
  name := Nat.zero_le _
  flags := ⟨by decide, by decide⟩
  segs := LB.nil _ _ _
  segsR := fun s hs => (by cases hs)
  needed := LB.nil _ _ _
  runPath := LB.nil _ _ _
  syms := LB.nil _ _ _
  buckets := LB.nil _ _ _
  bucketsL := fun s hs => (by cases hs)
  words := LB.nil _ _ _
  wordsR := fun s hs => (by cases hs)
  shift := ⟨by decide, by decide⟩
  relocs := LB.nil _ _ _
  relocsR := fun s hs => (by cases hs)
  slots := LB.nil _ _ _
  slotsR := fun s hs => (by cases hs)
  init := LB.nil _ _ _
  initR := fun s hs => (by cases hs)
  fini := LB.nil _ _ _
  finiR := fun s hs => (by cases hs)
  tls := LB.nil _ _ _
  tlsSize := ⟨by decide, by decide⟩
theorem rel_lb {w : World} {g : Nat} (h1 : g < w.heap.size) (h : w.heap[g]? = some (.cells #[.int .i64 0, .int .i64 1, .int .i64 (-1), .int .i64 0] 57 (0, 0))) :
    LB kRel (· < w.heap.size) w (.slice (some ⟨g, 0, none⟩) 1 1) [⟨0, 1, -1, 0⟩] := by
  refine ⟨some ⟨g, 0, none⟩, g, 0, 1, rfl, by decide, fun _ => rfl, ⟨Nat.le_refl _, fun h => by cases h⟩, fun _ => h1, fun i x hx => ?_⟩
  match i, hx with
  | 0, hx =>
    simp at hx; subst hx
    refine ⟨[.int .i64 0, .int .i64 1, .int .i64 (-1), .int .i64 0], rfl, fun j u hu => ?_⟩
    rw [Lib.cell_of_heap h]
    simpa using hu
  | i + 1, hx => simp at hx
theorem rel_img {S : Nat → Prop} {w : World} {s b c r : Value} (h : ImgM S w (leastV s b c) leastL) (hr : LB kRel S w r [⟨0, 1, -1, 0⟩]) : ImgM S w (relV s b c r) relImg :=
  ⟨h.name, h.flags, h.segs, h.segsR, h.needed, h.runPath, h.syms, h.buckets, h.bucketsL, h.words, h.wordsR, h.shift, hr, fun x hx => by
    have hx : x ∈ [(⟨0, 1, -1, 0⟩ : RelL)] := hx
    simp at hx; subst hx; exact ⟨⟨by decide, by decide⟩, ⟨by decide, by decide⟩, ⟨by decide, by decide⟩⟩, h.slots, h.slotsR, h.init, h.initR, h.fini, h.finiR, h.tls, h.tlsSize⟩

theorem enc_least (w : World) (sa ba ca : Option Addr) (sc bc cc : Nat) (h : ImgM (· < w.heap.size) w (leastV (.slice sa 1 sc) (.slice ba 1 bc) (.slice ca 1 cc)) leastL) :
    Calls Try.prog 12 #[.agg #[.string ⟨#[]⟩, .int .i64 0, .slice sa 1 sc, .slice none 0 0, .slice none 0 0, .slice none 0 0, .slice ba 1 bc, .slice ca 1 cc, .int .i64 6, .slice none 0 0, .slice none 0 0, .slice none 0 0, .slice none 0 0, .slice none 0 0, .int .i64 0]] w fun e w' =>
      ∃ ra n rc, e = .returned (.tuple #[.slice ra n rc, .int .i64 0]) ∧ Below w.heap.size w w' ∧ LB kByte (· < w'.heap.size) w' (.slice ra n rc) (formL leastL) := by
  refine (iencode_any w _ _ h).mono ?_
  rintro e w' ⟨r, rfl, hb, -, hr⟩
  have HR := hr may_least
  obtain ⟨ra, rc, rfl⟩ := HR.form
  exact ⟨ra, _, rc, by rw [may_least], hb, HR.lb.imp (fun b hb => hb.1)⟩
theorem may_of (w : World) (v : ImgV) (im : ImgL) (n : Int) (h : ImgM (· < w.heap.size) w v im) (hn : mayL im = n) :
    Calls Try.prog 10 #[.agg (imgCells v im)] w fun e w' => e = .returned (.int .i64 n) ∧ Below w.heap.size w w' := by
  subst hn; exact imay_any w v im h

set_option maxHeartbeats 16000000 in
set_option maxRecDepth 100000 in
theorem awake_of (HDec : ∀ (w : World) (bv : Value), LB kByte (· < w.heap.size) w bv (formL leastL) → 0 < w.heap.size → Calls Try.prog 15 #[bv] w fun e w' => ∃ v, e = .returned (.tuple #[.agg (imgCells v leastL), .int .i64 0]) ∧ Below w.heap.size w w' ∧ ImgM (fun b => w.heap.size ≤ b ∧ b < w'.heap.size) w' v leastL)
    (w : World) : Calls Try.prog 9 #[] w fun e w' => e = .returned (.bool true) ∧ Below w.heap.size w w' := by
  have HD := Lib.hid HDec
  clear HDec
  go_enter Try.func9, Try.ntmps9
  go_wp2_with fail
  refine (ileast_any _).mono ?_
  rintro e w1 ⟨s, b, c, rfl, hb1, hm1⟩
  obtain ⟨sa, sc, hs⟩ := hm1.segs.form
  obtain ⟨ba, bc, hb⟩ := hm1.buckets.form
  obtain ⟨ca, cc, hc⟩ := hm1.words.form
  replace hs : s = .slice sa 1 sc := hs
  replace hb : b = .slice ba 1 bc := hb
  replace hc : c = .slice ca 1 cc := hc
  subst hs hb hc
  have hz1 := hb1.size
  have B1 := Lib.hid (hb1.alloc (by omega) (.cells #[.string ⟨#[]⟩, .int .i64 0, .slice sa 1 sc, .slice none 0 0, .slice none 0 0, .slice none 0 0, .slice ba 1 bc, .slice ca 1 cc, .int .i64 6, .slice none 0 0, .slice none 0 0, .slice none 0 0, .slice none 0 0, .slice none 0 0, .int .i64 0] 38 (0, 0)))
  have M1 := Lib.hid ((hm1.imp (S' := (· < w1.heap.size)) (fun b hb => hb.2)).keeps (fun b hb => heap_alloc_old w1 (.cells #[.string ⟨#[]⟩, .int .i64 0, .slice sa 1 sc, .slice none 0 0, .slice none 0 0, .slice none 0 0, .slice ba 1 bc, .slice ca 1 cc, .int .i64 6, .slice none 0 0, .slice none 0 0, .slice none 0 0, .slice none 0 0, .slice none 0 0, .int .i64 0] 38 (0, 0)) hb))
  have F1 := Lib.hid (heap_alloc_new w1 (.cells #[.string ⟨#[]⟩, .int .i64 0, .slice sa 1 sc, .slice none 0 0, .slice none 0 0, .slice none 0 0, .slice ba 1 bc, .slice ca 1 cc, .int .i64 6, .slice none 0 0, .slice none 0 0, .slice none 0 0, .slice none 0 0, .slice none 0 0, .int .i64 0] 38 (0, 0)))
  have hz2 : w1.heap.size < (w1.alloc (.cells #[.string ⟨#[]⟩, .int .i64 0, .slice sa 1 sc, .slice none 0 0, .slice none 0 0, .slice none 0 0, .slice ba 1 bc, .slice ca 1 cc, .int .i64 6, .slice none 0 0, .slice none 0 0, .slice none 0 0, .slice none 0 0, .slice none 0 0, .int .i64 0] 38 (0, 0))).heap.size := by simp
  clear hm1 hb1
  simp only [imgCells, leastV, leastL]
  have HE := Lib.hid (enc_least _ _ _ _ _ _ _ (M1.out.imp (fun b hb => Nat.lt_trans hb hz2)))
  go_upto_region 2 with fail
  generalize w1.alloc (.cells #[.string ⟨#[]⟩, .int .i64 0, .slice sa 1 sc, .slice none 0 0, .slice none 0 0, .slice none 0 0, .slice ba 1 bc, .slice ca 1 cc, .int .i64 6, .slice none 0 0, .slice none 0 0, .slice none 0 0, .slice none 0 0, .slice none 0 0, .int .i64 0] 38 (0, 0)) = w2 at *
  generalize w1.heap.size = xb at *
  go_wp2_with (refine wpList_load_row rfl 38 (.tmp 1) rfl xb rfl _ _ _ _ F1.out Try.underlying38 rfl (by kernel_rfl) ?_)
  go_wp2_with fail
  refine HE.out.mono ?_
  rintro e w3 ⟨ra, N0, rc, rfl, hb3, hLB⟩
  have hz3 := hb3.size
  have HDd := Lib.hid (HD.out w3 _ hLB (by omega))
  have B3 := Lib.hid (B1.out.trans (hb3.mono (by omega)))
  have M3 := Lib.hid (M1.out.keeps (fun b hb => hb3.block b (by have hb : b < xb := hb; omega)))
  have F3 := Lib.hid ((hb3.block xb hz2).trans F1.out)
  clear HE HD hLB hb3 B1 M1 F1
  go_wp2_with fail
  refine HDd.out.mono ?_
  rintro e w4 ⟨v, rfl, hb4, hm4⟩
  obtain ⟨v1, v2, v3, v4, v5, v6, v7, v8, v9, v10, v11⟩ := v
  obtain ⟨da, dc, e1⟩ := hm4.segs.form
  replace e1 : v1 = .slice da 1 dc := e1
  obtain ⟨a2, c2, e2⟩ := hm4.needed.form
  replace e2 : v2 = .slice a2 0 c2 := e2
  obtain ⟨a3, c3, e3⟩ := hm4.runPath.form
  replace e3 : v3 = .slice a3 0 c3 := e3
  obtain ⟨a4, c4, e4⟩ := hm4.syms.form
  replace e4 : v4 = .slice a4 0 c4 := e4
  obtain ⟨a5, c5, e5⟩ := hm4.buckets.form
  replace e5 : v5 = .slice a5 1 c5 := e5
  obtain ⟨a6, c6, e6⟩ := hm4.words.form
  replace e6 : v6 = .slice a6 1 c6 := e6
  obtain ⟨a7, c7, e7⟩ := hm4.relocs.form
  replace e7 : v7 = .slice a7 0 c7 := e7
  obtain ⟨a8, c8, e8⟩ := hm4.slots.form
  replace e8 : v8 = .slice a8 0 c8 := e8
  obtain ⟨a9, c9, e9⟩ := hm4.init.form
  replace e9 : v9 = .slice a9 0 c9 := e9
  obtain ⟨a10, c10, e10⟩ := hm4.fini.form
  replace e10 : v10 = .slice a10 0 c10 := e10
  obtain ⟨a11, c11, e11⟩ := hm4.tls.form
  replace e11 : v11 = .slice a11 0 c11 := e11
  subst e1 e2 e3 e4 e5 e6 e7 e8 e9 e10 e11
  have hz4 := hb4.size
  obtain ⟨sb, so, h0, h1, h2, h3⟩ : ∃ sb so, da = some ⟨sb, so, none⟩ ∧ (w3.heap.size ≤ sb ∧ sb < w4.heap.size) ∧ w4.cell? ⟨sb, so + 3, none⟩ = some (.int .i64 5) ∧ 1 ≤ dc := by
    obtain ⟨aa, bb, off, cap, hv, hm, ha, hcap, hS, hc⟩ := hm4.segs
    cases hv
    obtain ⟨row, ⟨cc, hrow, _⟩, hcell⟩ := hc 0 _ rfl
    refine ⟨bb, off, ha (by decide), hS (by decide), ?_, hcap.1⟩
    have := hcell 3 (.int .i64 5) (by rw [hrow]; rfl)
    simpa using this
  subst h0
  have G3 := Lib.hid h2
  have B4 := Lib.hid (B3.out.trans (hb4.mono (by omega)))
  have M4 := Lib.hid (M3.out.keeps (fun b hb => hb4.block b (by have hb : b < xb := hb; omega)))
  have F4 := Lib.hid ((hb4.block xb (by omega)).trans F3.out)
  clear h2 hb4 hm4 HDd B3 M3 F3
  simp only [imgCells, leastL]
  go_upto_region 4 with fail
  have FJ := Lib.hid (heap_alloc_new w4 (.cells #[.string ⟨#[]⟩, .int .i64 0, .slice (some ⟨sb, so, none⟩) 1 dc, .slice a2 0 c2, .slice a3 0 c3, .slice a4 0 c4, .slice a5 1 c5, .slice a6 1 c6, .int .i64 6, .slice a7 0 c7, .slice a8 0 c8, .slice a9 0 c9, .slice a10 0 c10, .slice a11 0 c11, .int .i64 0] 38 (0, 0)))
  have F5 := Lib.hid ((heap_alloc_old w4 (.cells #[.string ⟨#[]⟩, .int .i64 0, .slice (some ⟨sb, so, none⟩) 1 dc, .slice a2 0 c2, .slice a3 0 c3, .slice a4 0 c4, .slice a5 1 c5, .slice a6 1 c6, .int .i64 6, .slice a7 0 c7, .slice a8 0 c8, .slice a9 0 c9, .slice a10 0 c10, .slice a11 0 c11, .int .i64 0] 38 (0, 0)) (r := xb) (by omega)).trans F4.out)
  have M5 := Lib.hid (M4.out.keeps (fun b hb => heap_alloc_old w4 (.cells #[.string ⟨#[]⟩, .int .i64 0, .slice (some ⟨sb, so, none⟩) 1 dc, .slice a2 0 c2, .slice a3 0 c3, .slice a4 0 c4, .slice a5 1 c5, .slice a6 1 c6, .int .i64 6, .slice a7 0 c7, .slice a8 0 c8, .slice a9 0 c9, .slice a10 0 c10, .slice a11 0 c11, .int .i64 0] 38 (0, 0)) (by have hb : b < xb := hb; omega)))
  have G5 := Lib.hid ((World.cell?_alloc_lt w4 (.cells #[.string ⟨#[]⟩, .int .i64 0, .slice (some ⟨sb, so, none⟩) 1 dc, .slice a2 0 c2, .slice a3 0 c3, .slice a4 0 c4, .slice a5 1 c5, .slice a6 1 c6, .int .i64 6, .slice a7 0 c7, .slice a8 0 c8, .slice a9 0 c9, .slice a10 0 c10, .slice a11 0 c11, .int .i64 0] 38 (0, 0)) _ h1.2).trans G3.out)
  have B5 := Lib.hid (B4.out.alloc (by omega) (.cells #[.string ⟨#[]⟩, .int .i64 0, .slice (some ⟨sb, so, none⟩) 1 dc, .slice a2 0 c2, .slice a3 0 c3, .slice a4 0 c4, .slice a5 1 c5, .slice a6 1 c6, .int .i64 6, .slice a7 0 c7, .slice a8 0 c8, .slice a9 0 c9, .slice a10 0 c10, .slice a11 0 c11, .int .i64 0] 38 (0, 0)))
  have hz5 : w4.heap.size < (w4.alloc (.cells #[.string ⟨#[]⟩, .int .i64 0, .slice (some ⟨sb, so, none⟩) 1 dc, .slice a2 0 c2, .slice a3 0 c3, .slice a4 0 c4, .slice a5 1 c5, .slice a6 1 c6, .int .i64 6, .slice a7 0 c7, .slice a8 0 c8, .slice a9 0 c9, .slice a10 0 c10, .slice a11 0 c11, .int .i64 0] 38 (0, 0))).heap.size := by simp
  have hj : xb < w4.heap.size := by omega
  clear F4 M4 G3 B4
  generalize w4.alloc (.cells #[.string ⟨#[]⟩, .int .i64 0, .slice (some ⟨sb, so, none⟩) 1 dc, .slice a2 0 c2, .slice a3 0 c3, .slice a4 0 c4, .slice a5 1 c5, .slice a6 1 c6, .int .i64 6, .slice a7 0 c7, .slice a8 0 c8, .slice a9 0 c9, .slice a10 0 c10, .slice a11 0 c11, .int .i64 0] 38 (0, 0)) = w5 at *
  generalize w4.heap.size = jb at *
  have FJ6 := Lib.hid ((heap_alloc_old w5 (.cells #[.int .i64 0, .int .i64 1, .int .i64 (-1), .int .i64 0] 57 (0, 0)) hz5).trans FJ.out)
  have F6 := Lib.hid ((heap_alloc_old w5 (.cells #[.int .i64 0, .int .i64 1, .int .i64 (-1), .int .i64 0] 57 (0, 0)) (r := xb) (by omega)).trans F5.out)
  have M6 := Lib.hid (M5.out.keeps (fun b hb => heap_alloc_old w5 (.cells #[.int .i64 0, .int .i64 1, .int .i64 (-1), .int .i64 0] 57 (0, 0)) (by have hb : b < xb := hb; omega)))
  have G6 := Lib.hid ((World.cell?_alloc_lt w5 (.cells #[.int .i64 0, .int .i64 1, .int .i64 (-1), .int .i64 0] 57 (0, 0)) ⟨sb, so + 3, none⟩ (by show sb < _; omega)).trans G5.out)
  have B6 := Lib.hid (B5.out.alloc (by omega) (.cells #[.int .i64 0, .int .i64 1, .int .i64 (-1), .int .i64 0] 57 (0, 0)))
  have FR6 := Lib.hid (heap_alloc_new w5 (.cells #[.int .i64 0, .int .i64 1, .int .i64 (-1), .int .i64 0] 57 (0, 0)))
  have hz6 : w5.heap.size < (w5.alloc (.cells #[.int .i64 0, .int .i64 1, .int .i64 (-1), .int .i64 0] 57 (0, 0))).heap.size := by simp
  have c9 : (w5.alloc (.cells #[.int .i64 0, .int .i64 1, .int .i64 (-1), .int .i64 0] 57 (0, 0))).cell? ⟨xb, 9, none⟩ = some (.slice none 0 0) := by rw [Lib.cell_of_heap F6.out]; rfl
  have f9 : (w5.alloc (.cells #[.int .i64 0, .int .i64 1, .int .i64 (-1), .int .i64 0] 57 (0, 0))).frozen? ⟨xb, 9, none⟩ = false := Lib.frozen_of_heap F6.out 9
  clear F5 M5 G5 B5 FJ
  go_upto_region 5 with fail
  have hrb : xb < w5.heap.size := by omega
  have FX7 := Lib.hid (setCell_row1 (k := 9) (.slice (some ⟨w5.heap.size, 0, none⟩) 1 1) F6.out)
  have hs9 := setCell_step (w5.alloc (.cells #[.int .i64 0, .int .i64 1, .int .i64 (-1), .int .i64 0] 57 (0, 0))) xb 9 (.slice (some ⟨w5.heap.size, 0, none⟩) 1 1)
  have FJ7 := Lib.hid ((hs9.block jb (by omega)).trans FJ6.out)
  have FR7 := Lib.hid ((hs9.block w5.heap.size (by omega)).trans FR6.out)
  have M7 := Lib.hid (M6.out.keeps (fun b hb => hs9.block b (by have hb : b < xb := hb; omega)))
  have G7 := Lib.hid ((hs9.cell (p := ⟨sb, so + 3, none⟩) (by show sb ≠ xb; omega)).trans G6.out)
  have B7 := Lib.hid (((Step.of_below B6.out).trans (hs9.imp (fun x hx => by have hx : x < w.heap.size := hx; show x ≠ xb; omega))).below)
  have hz7 : (w5.alloc (.cells #[.int .i64 0, .int .i64 1, .int .i64 (-1), .int .i64 0] 57 (0, 0))).heap.size = ((w5.alloc (.cells #[.int .i64 0, .int .i64 1, .int .i64 (-1), .int .i64 0] 57 (0, 0))).setCell ⟨xb, 9, none⟩ (.slice (some ⟨w5.heap.size, 0, none⟩) 1 1)).heap.size := by simp
  rw [hz7] at hz6
  clear c9 f9 hs9 F6 FJ6 FR6 M6 G6 B6 hz7
  generalize (w5.alloc (.cells #[.int .i64 0, .int .i64 1, .int .i64 (-1), .int .i64 0] 57 (0, 0))).setCell ⟨xb, 9, none⟩ (.slice (some ⟨w5.heap.size, 0, none⟩) 1 1) = w7 at *
  generalize w5.heap.size = rb at *
  have HY := Lib.hid (may_of w7 noneV noneImg 91 (imgM_none _ _) may_empty)
  go_wp2_with fail
  refine HY.out.mono ?_
  rintro e w8 ⟨rfl, hb8⟩
  have hz8 := hb8.size
  have FX8 := Lib.hid ((hb8.block xb (by omega)).trans FX7.out)
  have FJ8 := Lib.hid ((hb8.block jb (by omega)).trans FJ7.out)
  have FR8 := Lib.hid ((hb8.block rb (by omega)).trans FR7.out)
  have M8 := Lib.hid (M7.out.keeps (fun b hb => hb8.block b (by have hb : b < xb := hb; omega)))
  have G8 : w8.cell? ⟨sb, so + 3, none⟩ = some (.int .i64 5) := (World.cell?_of_block (a := ⟨sb, so + 3, none⟩) (hb8.block sb (by omega))).trans G7.out
  have B8 := Lib.hid (B7.out.trans (hb8.mono (by omega)))
  have cJ : w8.cell? ⟨jb, 2, none⟩ = some (.slice (some ⟨sb, so, none⟩) 1 dc) := by rw [Lib.cell_of_heap FJ8.out]; rfl
  have x0 : w8.cell? ⟨xb, 0, none⟩ = some (.string ⟨#[]⟩) := by rw [Lib.cell_of_heap FX8.out]; rfl
  have x1 : w8.cell? ⟨xb, 1, none⟩ = some (.int .i64 0) := by rw [Lib.cell_of_heap FX8.out]; rfl
  have x2 : w8.cell? ⟨xb, 2, none⟩ = some (.slice sa 1 sc) := by rw [Lib.cell_of_heap FX8.out]; rfl
  have x3 : w8.cell? ⟨xb, 3, none⟩ = some (.slice none 0 0) := by rw [Lib.cell_of_heap FX8.out]; rfl
  have x4 : w8.cell? ⟨xb, 4, none⟩ = some (.slice none 0 0) := by rw [Lib.cell_of_heap FX8.out]; rfl
  have x5 : w8.cell? ⟨xb, 5, none⟩ = some (.slice none 0 0) := by rw [Lib.cell_of_heap FX8.out]; rfl
  have x6 : w8.cell? ⟨xb, 6, none⟩ = some (.slice ba 1 bc) := by rw [Lib.cell_of_heap FX8.out]; rfl
  have x7 : w8.cell? ⟨xb, 7, none⟩ = some (.slice ca 1 cc) := by rw [Lib.cell_of_heap FX8.out]; rfl
  have x8 : w8.cell? ⟨xb, 8, none⟩ = some (.int .i64 6) := by rw [Lib.cell_of_heap FX8.out]; rfl
  have x9 : w8.cell? ⟨xb, 9, none⟩ = some (.slice (some ⟨rb, 0, none⟩) 1 1) := by rw [Lib.cell_of_heap FX8.out]; rfl
  have x10 : w8.cell? ⟨xb, 10, none⟩ = some (.slice none 0 0) := by rw [Lib.cell_of_heap FX8.out]; rfl
  have x11 : w8.cell? ⟨xb, 11, none⟩ = some (.slice none 0 0) := by rw [Lib.cell_of_heap FX8.out]; rfl
  have x12 : w8.cell? ⟨xb, 12, none⟩ = some (.slice none 0 0) := by rw [Lib.cell_of_heap FX8.out]; rfl
  have x13 : w8.cell? ⟨xb, 13, none⟩ = some (.slice none 0 0) := by rw [Lib.cell_of_heap FX8.out]; rfl
  have x14 : w8.cell? ⟨xb, 14, none⟩ = some (.int .i64 0) := by rw [Lib.cell_of_heap FX8.out]; rfl
  have HZ := Lib.hid (may_of w8 (relV (.slice sa 1 sc) (.slice ba 1 bc) (.slice ca 1 cc) (.slice (some ⟨rb, 0, none⟩) 1 1)) relImg 94 (rel_img (M8.out.imp (fun b hb => by have hb : b < xb := hb; show b < _; omega)) (rel_lb (by omega) FR8.out)) may_rel)
  clear HY hb8 FX7 FJ7 FR7 M7 G7 B7 FX8 FJ8 FR8 M8
  go_wp2_with fail
  refine HZ.out.mono ?_
  rintro e w9 ⟨rfl, hb9⟩
  have B9 := Lib.hid (B8.out.trans (hb9.mono (by omega)))
  clear HZ hb9
  go_wp2
  go_ret
  exact ⟨rfl, B9.out⟩

end Go.Proofs.Ytbliedldlimpgaa

/- The law ImageCut: what the program's functions come to. -/
namespace Go.Proofs.Ytbliedldlimpgaa
set_option linter.unusedVariables false
set_option linter.unusedSimpArgs false
open Go.RowKit

/-- what a call of Decode comes to, as the laws want it -/
def DecSays : Prop := ∀ (w : World) (bv : Value) (l : List UInt8), LB kByte (· < w.heap.size) w bv l → l.length ≤ 140737488355328 → 0 < w.heap.size →
  Calls Try.prog 15 #[bv] w fun e w' => ∃ v im code, e = .returned (.tuple #[.agg (imgCells v im), .int .i64 code]) ∧ Below w.heap.size w w' ∧ ImgM (fun b => w.heap.size ≤ b ∧ b < w'.heap.size) w' v im ∧
    (wholeP l = none → code = 98) ∧ (∀ x, wholeP l = some x → mayL x = 0 → im = x ∧ code = 0) ∧ (code = 0 → ∃ x, wholeP l = some x ∧ mayL x = 0)
def AwakeSays : Prop := ∀ w : World, Calls Try.prog 9 #[] w fun e w' => e = .returned (.bool true) ∧ Below w.heap.size w w'
theorem awake_says (h : DecSays) : AwakeSays := fun w => awake_of (fun w bv hl hw => (h w bv (formL leastL) hl (of_decide_eq_true (by kernel_rfl)) hw).mono (fun e w' ⟨v, im, code, he, hb, hm, _, h2, _⟩ => by
  obtain ⟨rfl, rfl⟩ := h2 leastL (whole_form (may_ok may_least (fun x hx => by simp [leastL] at hx; subst hx; decide))) may_least
  exact ⟨v, he, hb, hm⟩)) w
theorem LB.one' {α : Type} {K : Kind α} {S : Nat → Prop} {w : World} {v : Value} {l : List α} (h : LB K S w v l) : v.oneCell' = true := by
  obtain ⟨a, c, rfl⟩ := h.form
  rfl
theorem ImgM.cells {S : Nat → Prop} {w : World} {v : ImgV} {im : ImgL} (h : ImgM S w v im) : (imgCells v im).all (·.oneCell') = true := by
  have o1 := h.segs.one'
  have o2 := h.needed.one'
  have o3 := h.runPath.one'
  have o4 := h.syms.one'
  have o5 := h.buckets.one'
  have o6 := h.words.one'
  have o7 := h.relocs.one'
  have o8 := h.slots.one'
  have o9 := h.init.one'
  have o10 := h.fini.one'
  have o11 := h.tls.one'
  have s1 : (Value.string ⟨im.name.toArray⟩).oneCell' = true := rfl
  have s2 : ∀ n, (Value.int .i64 n).oneCell' = true := fun n => rfl
  simp [imgCells, s1, s2, o1, o2, o3, o4, o5, o6, o7, o8, o9, o10, o11]
theorem form_len {im : ImgL} (h : OkImg im) (f : Few im) : (formL im).length ≤ 1000000000 := by
  have h1 := flat_len segF 1048589 im.segs (fun x hx => segF_len (h.segs.2 x hx))
  have h2 := flat_len needF 1053187 im.needed (fun x hx => needF_len (h.needed.2 x hx))
  have h3 := flat_len textL' 4098 im.runPath (fun x hx => by have := h.runPath.2 x hx; simp only [textL', List.length_append, digitsL_len]; omega)
  have h4 := flat_len symF 8217 im.syms (fun x hx => symF_len (h.syms.2 x hx))
  have h5 := flat_len chainF 131074 im.buckets (fun x hx => chainF_len (h.buckets.2 x hx).1)
  have h6 := flat_len relF 25 im.relocs (fun x hx => relF_len x)
  have h7 := flat_len slotF 12 im.slots (fun x hx => slotF_len x)
  have g1 := f.segs
  have g2 := f.needed
  have g3 := f.runPath
  have g4 := f.syms
  have g5 := f.buckets
  have g6 := f.words
  have g7 := f.relocs
  have g8 := f.slots
  have g9 := f.init
  have g10 := f.fini
  have g11 := h.name
  have g12 := h.tls
  have h3' : (textsL im.runPath).length ≤ 4098 * im.runPath.length := h3
  have hm : magicL.length = 7 := rfl
  unfold formL
  simp only [List.length_append, digitsL_len, numsL_len, textL', blockL, hm]
  omega

set_option maxHeartbeats 16000000 in
set_option maxRecDepth 100000 in
theorem cut_of (HDec : DecSays) (w : World) (v : ImgV) (im : ImgL) (n : Int) (hn : 0 ≤ n ∧ n < 65536) (mv : Value) (more : List UInt8) (hm : ImgM (· < w.heap.size) w v im) (hmv : LB kByte (· < w.heap.size) w mv more) (hl : more.length ≤ 1048576) :
    Calls Try.prog 6 #[.agg (imgCells v im), .int .u16 n, mv] w fun e w' => e = .returned (.bool true) ∧ Below w.heap.size w w' := by
  have HD := Lib.hid HDec
  have HAw := Lib.hid (awake_says HDec)
  obtain ⟨ma, mc, rfl⟩ := hmv.form
  have Hn := Lib.hid hn
  have F0 := Lib.hid (heap_alloc_new w (.cells (imgCells v im) 38 (0, 0)))
  have M0 := Lib.hid (hm.keeps (fun b hb => heap_alloc_old w (.cells (imgCells v im) 38 (0, 0)) hb))
  have V0 := Lib.hid (hmv.keeps (fun b hb => heap_alloc_old w (.cells (imgCells v im) 38 (0, 0)) hb))
  have B0 := Lib.hid ((Below.refl w.heap.size w).alloc (Nat.le_refl _) (.cells (imgCells v im) 38 (0, 0)))
  have hz0 : w.heap.size < (w.alloc (.cells (imgCells v im) 38 (0, 0))).heap.size := by simp
  clear hm hmv HDec hn
  go_enter Try.func6, Try.ntmps6
  go_upto_region 1 with fail
  generalize w.alloc (.cells (imgCells v im) 38 (0, 0)) = w1 at *
  go_wp2_with fail
  refine (HAw.out _).mono ?_
  rintro e w2 ⟨rfl, hb2⟩
  have hz2 := hb2.size
  have F2 := Lib.hid ((hb2.block w.heap.size hz0).trans F0.out)
  have M2 := Lib.hid (M0.out.keeps (fun b hb => hb2.block b (by have hb : b < w.heap.size := hb; omega)))
  have V2 := Lib.hid (V0.out.keeps (fun b hb => hb2.block b (by have hb : b < w.heap.size := hb; omega)))
  have B2 := Lib.hid (B0.out.trans (hb2.mono (by omega)))
  have HE := Lib.hid (iencode_any w2 v im (M2.out.imp (fun b hb => by have hb : b < w.heap.size := hb; show b < _; omega)))
  clear hb2 F0 M0 V0 B0 HAw
  have hI : (imgCells v im).size = 15 := rfl
  generalize imgCells v im = I at *
  obtain ⟨mm, hmm⟩ : ∃ mm, mayL im = mm := ⟨_, rfl⟩
  rw [hmm] at HE
  have Hmm := Lib.hid hmm
  clear hmm
  go_wp2_with (refine wpList_load_row rfl 38 (.tmp 3) rfl w.heap.size rfl _ _ _ _ F2.out Try.underlying38 rfl (by rw [hI]; kernel_rfl) ?_)
  clear hI
  go_wp2_with fail
  refine HE.out.mono ?_
  rintro e w3 ⟨r, rfl, hb3, hr1, hr2⟩
  have hz3 := hb3.size
  have V3 := Lib.hid (V2.out.keeps (fun b hb => hb3.block b (by have hb : b < w.heap.size := hb; omega)))
  have B3 := Lib.hid (B2.out.trans (hb3.mono (by omega)))
  have HW := Lib.hid M2.out.wordsR
  clear hb3 HE F2 M2 V2 B2
  by_cases h0 : mm = 0
  · have HO := Lib.hid (hr2 h0)
    have hok := may_ok (Hmm.out.trans h0) HW.out
    have Hcut := Lib.hid (fun k (h : k < (formL im).length) => whole_cut hok h)
    have Hmore := Lib.hid (fun (h : more ≠ []) => whole_more hok h)
    have hpos := form_pos im
    have hfl := form_len hok (may_few (Hmm.out.trans h0))
    subst h0
    clear hr1 hr2 hok Hmm HW
    generalize formL im = fl at *
    obtain ⟨ra, rc, hrf⟩ := HO.out.form
    subst hrf
    obtain ⟨N, hN⟩ : ∃ N, fl.length = N := ⟨_, rfl⟩
    rw [hN] at hpos hfl ⊢
    have HN := Lib.hid hN
    have hd1 : decide ((N : Int) = 0) = false := by rw [decide_eq_false_iff_not]; omega
    clear hN
    obtain ⟨k, hk⟩ : ∃ k, n.toNat % N = k := ⟨_, rfl⟩
    have hkN : k < N := by rw [← hk]; exact Nat.mod_lt _ hpos
    have e1 : (wrap64 n).tmod (N : Int) = (k : Int) := by
      obtain ⟨h1, h2⟩ := Hn.out
      have ew : wrap64 n = n := by unfold wrap64; omega
      rw [ew, Int.tmod_eq_emod_of_nonneg h1, ← hk]
      have : ((n.toNat : Nat) : Int) = n := Int.toNat_of_nonneg h1
      rw [Int.natCast_emod, this]
    have LF := Lib.hid (HO.out.lb.imp (S' := (· < w3.heap.size)) (fun b hb => hb.1))
    have hcap : N ≤ rc := by
      obtain ⟨aa, bb, off, cap, hv, _, _, hc, _⟩ := LF.out
      cases hv
      have := HN.out
      omega
    have LK : Hid (LB kByte (· < w3.heap.size) w3 (.slice ra k rc) (fl.take k)) := Lib.hid (LB.take_byte LF.out k (by rw [HN.out]; omega))
    have hlk : (fl.take k).length ≤ 140737488355328 := by rw [List.length_take]; omega
    have HD1 := Lib.hid (HD.out w3 _ _ LK.out hlk (by omega))
    have HC1 := Lib.hid (Hcut.out k (by rw [HN.out]; exact hkN))
    clear hk hlk LK
    go_wp2_with fail
    refine HD1.out.mono ?_
    rintro e w4 ⟨v4, im4, code4, rfl, hb4, hm4, hd4, -, -⟩
    obtain rfl := hd4 HC1.out
    have hz4 := hb4.size
    have LN : Hid (LB kByte (· < w3.heap.size) w4 (.slice ra N rc) fl) := Lib.hid (by
      have h := LF.out
      rw [HN.out] at h
      exact h.keeps (fun b hb => hb4.block b hb))
    have V4 := Lib.hid (V3.out.keeps (fun b hb => hb4.block b (by have hb : b < w.heap.size := hb; omega)))
    have B4 := Lib.hid (B3.out.trans (hb4.mono (by omega)))
    have HOne := Lib.hid hm4.cells
    have hI4 : (imgCells v4 im4).size = 15 := rfl
    have FZ := Lib.hid (heap_alloc_new w4 (.cells #[.string ⟨#[]⟩, .int .i64 0, .slice none 0 0, .slice none 0 0, .slice none 0 0, .slice none 0 0, .slice none 0 0, .slice none 0 0, .int .i64 0, .slice none 0 0, .slice none 0 0, .slice none 0 0, .slice none 0 0, .slice none 0 0, .int .i64 0] 38 (0, 0)))
    have hz5 : w4.heap.size < (w4.alloc (.cells #[.string ⟨#[]⟩, .int .i64 0, .slice none 0 0, .slice none 0 0, .slice none 0 0, .slice none 0 0, .slice none 0 0, .slice none 0 0, .int .i64 0, .slice none 0 0, .slice none 0 0, .slice none 0 0, .slice none 0 0, .slice none 0 0, .int .i64 0] 38 (0, 0))).heap.size := by simp
    clear hb4 hm4 hd4 HD1 HC1 LF V3 B3 e1 Hcut
    generalize imgCells v4 im4 = I4 at *
    go_upto_region 6 with (refine wpList_store_row rfl 38 (.tmp 10) (.tmp 42) rfl w4.heap.size I4 rfl rfl _ _ FZ.out (by rw [hI4]; kernel_rfl) (by rw [hI4]; rfl) HOne.out ?_)
    have S5 : Hid (Step (· < w4.heap.size) w4 ((w4.alloc (.cells #[.string ⟨#[]⟩, .int .i64 0, .slice none 0 0, .slice none 0 0, .slice none 0 0, .slice none 0 0, .slice none 0 0, .slice none 0 0, .int .i64 0, .slice none 0 0, .slice none 0 0, .slice none 0 0, .slice none 0 0, .slice none 0 0, .int .i64 0] 38 (0, 0))).setRow w4.heap.size I4)) := Lib.hid (((Step.refl (· < w4.heap.size) w4).alloc (fun b hb => hb) (.cells #[.string ⟨#[]⟩, .int .i64 0, .slice none 0 0, .slice none 0 0, .slice none 0 0, .slice none 0 0, .slice none 0 0, .slice none 0 0, .int .i64 0, .slice none 0 0, .slice none 0 0, .slice none 0 0, .slice none 0 0, .slice none 0 0, .int .i64 0] 38 (0, 0))).trans ((jm_row _ w4.heap.size I4).imp (fun x hx => Nat.ne_of_lt hx)))
    clear hI4 HOne FZ hz5
    generalize (w4.alloc (.cells #[.string ⟨#[]⟩, .int .i64 0, .slice none 0 0, .slice none 0 0, .slice none 0 0, .slice none 0 0, .slice none 0 0, .slice none 0 0, .int .i64 0, .slice none 0 0, .slice none 0 0, .slice none 0 0, .slice none 0 0, .slice none 0 0, .int .i64 0] 38 (0, 0))).setRow w4.heap.size I4 = w5 at *
    have hz5 := S5.out.size
    have LN5 := Lib.hid (LN.out.keeps (fun b hb => S5.out.block b (by have hb : b < w3.heap.size := hb; show b < _; omega)))
    have V5 := Lib.hid (V4.out.keeps (fun b hb => S5.out.block b (by have hb : b < w.heap.size := hb; show b < _; omega)))
    have B5 : Hid (Below w.heap.size w w5) := Lib.hid (((Step.of_below B4.out).trans (S5.out.imp (fun x hx => by have hx : x < w.heap.size := hx; show x < _; omega))).below)
    clear LN V4 B4 S5
    go_wp2_with (at_builtin; refine wpList_appendsK (B := w5.heap.size) (E := fun _ => False) (l := []) plain_byte 36 (.int .u8 0) 1 Try.underlying36 info_byte rfl rfl (.tmp 44) (.tmp 45) rfl rfl (OwnK.nil _ _ _ _ _) (fun x hx => hx.elim) _ fl rfl LN5.out ?c1 ?c2 (Nat.le_refl _) ?_)
    case c1 => rw [HN.out]; simp; omega
    case c2 => rw [HN.out]; simp; omega
    intro x6 w6 ho6 hs6 _
    have S6 := Lib.hid (hs6.imp (S' := (· < w5.heap.size)) (fun b hb => ⟨hb, by simp [Value.ownBlock]⟩))
    have hz6 := hs6.size
    have O6 := Lib.hid ho6
    have V6 := Lib.hid (V5.out.keeps (fun b hb => S6.out.block b (by have hb : b < w.heap.size := hb; show b < _; omega)))
    clear ho6 hs6 LN5
    go_wp2_with (at_builtin; refine wpList_appendsK (B := w5.heap.size) (E := fun _ => False) (v := x6) (l := fl) plain_byte 36 (.int .u8 0) 1 Try.underlying36 info_byte rfl rfl (.tmp 47) (.tmp 48) rfl rfl O6.out (fun x hx => hx.elim) _ more rfl V6.out ?c1 ?c2 (by omega) ?_)
    case c1 => rw [HN.out]; omega
    case c2 => rw [HN.out]; omega
    intro x7 w7 ho7 hs7 _
    have hz7 := hs7.size
    have S7 := Lib.hid (hs7.imp (S' := (· < w.heap.size)) (fun b hb => ⟨by have hb : b < w.heap.size := hb; omega, fun e => by have := (O6.out.lt b e).1; have hb : b < w.heap.size := hb; omega⟩))
    have LL : Hid (LB kByte (· < w7.heap.size) w7 x7 (fl ++ more)) := Lib.hid (ho7.lb.imp (fun b hb => hb.1))
    have B7 : Hid (Below w.heap.size w w7) := Lib.hid ((((Step.of_below B5.out).trans (S6.out.imp (fun x hx => by have hx : x < w.heap.size := hx; show x < _; omega))).trans S7.out).below)
    have HD2 := Lib.hid (HD.out w7 x7 _ LL.out (by rw [List.length_append, HN.out]; omega) (by omega))
    clear ho7 hs7 O6 V5 V6 S6 S7 B5 LL HD
    go_wp2_with fail
    refine HD2.out.mono ?_
    rintro e w8 ⟨v8, im8, code8, rfl, hb8, hm8, hd8, -, -⟩
    have hz8 := hb8.size
    have B8 := Lib.hid (B7.out.trans (hb8.mono (by omega)))
    have HC : Hid (more ≠ [] → code8 = 98) := Lib.hid (fun h => hd8 (Hmore.out h))
    have HOne := Lib.hid hm8.cells
    have hI4 : (imgCells v8 im8).size = 15 := rfl
    have FZ := Lib.hid (heap_alloc_new w8 (.cells #[.string ⟨#[]⟩, .int .i64 0, .slice none 0 0, .slice none 0 0, .slice none 0 0, .slice none 0 0, .slice none 0 0, .slice none 0 0, .int .i64 0, .slice none 0 0, .slice none 0 0, .slice none 0 0, .slice none 0 0, .slice none 0 0, .int .i64 0] 38 (0, 0)))
    have hz9 : w8.heap.size < (w8.alloc (.cells #[.string ⟨#[]⟩, .int .i64 0, .slice none 0 0, .slice none 0 0, .slice none 0 0, .slice none 0 0, .slice none 0 0, .slice none 0 0, .int .i64 0, .slice none 0 0, .slice none 0 0, .slice none 0 0, .slice none 0 0, .slice none 0 0, .int .i64 0] 38 (0, 0))).heap.size := by simp
    clear hb8 hm8 hd8 HD2 B7 Hmore HN
    generalize imgCells v8 im8 = I8 at *
    go_upto_region 10 with (refine wpList_store_row rfl 38 (.tmp 13) (.tmp 53) rfl w8.heap.size I8 rfl rfl _ _ FZ.out (by rw [hI4]; kernel_rfl) (by rw [hI4]; rfl) HOne.out ?_)
    have B9 : Hid (Below w.heap.size w ((w8.alloc (.cells #[.string ⟨#[]⟩, .int .i64 0, .slice none 0 0, .slice none 0 0, .slice none 0 0, .slice none 0 0, .slice none 0 0, .slice none 0 0, .int .i64 0, .slice none 0 0, .slice none 0 0, .slice none 0 0, .slice none 0 0, .slice none 0 0, .int .i64 0] 38 (0, 0))).setRow w8.heap.size I8)) := Lib.hid (((Step.of_below B8.out).trans ((((Step.refl (· < w8.heap.size) w8).alloc (fun b hb => hb) (.cells #[.string ⟨#[]⟩, .int .i64 0, .slice none 0 0, .slice none 0 0, .slice none 0 0, .slice none 0 0, .slice none 0 0, .slice none 0 0, .int .i64 0, .slice none 0 0, .slice none 0 0, .slice none 0 0, .slice none 0 0, .slice none 0 0, .int .i64 0] 38 (0, 0))).trans ((jm_row _ w8.heap.size I8).imp (fun x hx => Nat.ne_of_lt hx))).imp (fun x hx => by have hx : x < w.heap.size := hx; show x < _; omega))).below)
    clear hI4 HOne FZ hz9 B8
    generalize (w8.alloc (.cells #[.string ⟨#[]⟩, .int .i64 0, .slice none 0 0, .slice none 0 0, .slice none 0 0, .slice none 0 0, .slice none 0 0, .slice none 0 0, .int .i64 0, .slice none 0 0, .slice none 0 0, .slice none 0 0, .slice none 0 0, .slice none 0 0, .int .i64 0] 38 (0, 0))).setRow w8.heap.size I8 = w9 at *
    by_cases hm0 : more = []
    · subst hm0
      go_wp2
      go_ret
      exact ⟨rfl, B9.out⟩
    · obtain rfl := HC.out hm0
      have hml : 0 < more.length := List.length_pos_iff.2 hm0
      have hd2 : ((more.length : Int) == 0) = false := by rw [beq_eq_false_iff_ne]; omega
      clear hm0 HC
      go_wp2
      go_ret
      exact ⟨rfl, B9.out⟩
  · have hr := hr1 h0
    subst hr
    have hd1 : (mm != 0) = true := by simpa using h0
    clear hr1 hr2 Hmm HW V3
    go_wp2
    go_ret
    exact ⟨rfl, B3.out⟩

end Go.Proofs.Ytbliedldlimpgaa

/- What a call of image.Decode comes to, as the laws want it. -/
namespace Go.Proofs.Ytbliedldlimpgaa
set_option linter.unusedVariables false
set_option linter.unusedSimpArgs false
open Go.RowKit

theorem dec_says : DecSays := fun w bv l hl hlen hw => (idecode_any w bv l hl hlen hw).mono fun e w' ⟨v, he, hb, hm⟩ => by
  refine ⟨v, _, _, he, hb, hm, fun h => by unfold decL; rw [h], fun x hx h0 => by unfold decL; rw [hx]; show (if mayL x = 0 then _ else _ : ImgL × Int).1 = _ ∧ (if mayL x = 0 then _ else _ : ImgL × Int).2 = _; rw [if_pos h0]; exact ⟨rfl, rfl⟩, fun h => ?_⟩
  unfold decL at h
  cases hw : wholeP l with
  | none => rw [hw] at h; cases h
  | some x =>
    rw [hw] at h
    by_cases h0 : mayL x = 0
    · exact ⟨x, rfl, h0⟩
    · have h : (if mayL x = 0 then (x, 0) else (emptyL, mayL x) : ImgL × Int).2 = 0 := h
      rw [if_neg h0] at h
      exact absurd h h0

end Go.Proofs.Ytbliedldlimpgaa
