/- Lemmas that the claim is proved from: what calls of functions of the program come to (contracts), and plain laws. Each lemma bears its own conditions. -/
import Derived.Test.YtbliedldlimpgaaBas16
import Derived.Test.YtbliedldlimpgaaBas17
import Derived.Test.YtbliedldlimpgaaBas18
import Derived.Test.YtbliedldlimpgaaBas20
import Derived.Test.YtbliedldlimpgaaBas21
import Derived.Test.YtbliedldlimpgaaBas23
import Derived.Test.YtbliedldlimpgaaBas24
import Derived.Test.YtbliedldlimpgaaBas25
import Derived.Test.YtbliedldlimpgaaBas26
import Derived.Test.YtbliedldlimpgaaBas27
import Derived.Test.YtbliedldlimpgaaBas10
import Derived.Laws.ResultCell
import Derived.Laws.Tables

namespace Go.Proofs.Ytbliedldlimpgaa
set_option linter.unusedVariables false
set_option linter.unusedSimpArgs false
open Go.RowKit

theorem ImgM.move {B rb lb ib : Nat} {w w' : World} {v : ImgV} {im : ImgL} (h : ImgM (fun b => B ≤ b ∧ b < w.heap.size) w v im) (hs : Step (fun x => x < w.heap.size ∧ x ≠ rb ∧ x ≠ lb ∧ x ≠ ib) w w') (h1 : rb < B) (h2 : lb < B) (h3 : ib < B) : ImgM (fun b => B ≤ b ∧ b < w'.heap.size) w' v im :=
  (h.keeps (fun b hb => hs.block b ⟨hb.2, by have := hb.1; omega, by have := hb.1; omega, by have := hb.1; omega⟩)).imp (fun b hb => ⟨hb.1, Nat.lt_of_lt_of_le hb.2 hs.size⟩)
set_option maxHeartbeats 64000000 in
set_option maxRecDepth 100000 in
theorem idecode_any (w : World) (bv : Value) (l : List UInt8) (hl : LB kByte (· < w.heap.size) w bv l) (hlen : l.length ≤ 140737488355328) (hw : 0 < w.heap.size) :
    Calls Try.prog 15 #[bv] w fun e w' => ∃ v, e = .returned (.tuple #[.agg (imgCells v (decL l).1), .int .i64 (decL l).2]) ∧ Below w.heap.size w w' ∧ ImgM (fun b => w.heap.size ≤ b ∧ b < w'.heap.size) w' v (decL l).1 := by
  obtain ⟨va, vc, rfl⟩ := hl.form
  refine calls_of_wp (c := dRest Try.f15 0) Try.func15 (by kernel_rfl) ?_
  refine dhead (w := w) (va := va) (vc := vc) (l := l) ⟨by kernel_rfl, rfl, by kernel_rfl, trivial⟩ hl hlen hw ?_
  intro a w4 lb rb gb x0 st0 st1 o hF hL4 hG0 ho hst hB4 hZ4 hzr hzl
  have hP : ∀ (x : List PanicEntry) (a a' : Act) (w0 : World), a'.defers = a.defers → bodyPost Try.prog Try.f15 (fun e w' => ∃ v, e = .returned (.tuple #[.agg (imgCells v (decL l).1), .int .i64 (decL l).2]) ∧ Below w.heap.size w w' ∧ ImgM (fun b => w.heap.size ≤ b ∧ b < w'.heap.size) w' v (decL l).1) (.panic x) a w0 → bodyPost Try.prog Try.f15 (fun e w' => ∃ v, e = .returned (.tuple #[.agg (imgCells v (decL l).1), .int .i64 (decL l).2]) ∧ Below w.heap.size w w' ∧ ImgM (fun b => w.heap.size ≤ b ∧ b < w'.heap.size) w' v (decL l).1) (.panic x) a' w0 := fun _ _ _ _ e h => ⟨e.trans h.1, h.2⟩
  have hne := hL4.ne
  have hng := hL4.ng
  have hlt4 := hL4.lt
  have hrt4 := hL4.rblt
  have hgt4 := hL4.gblt
  have e3 : dRest Try.f15 3 = .seq (dCode Try.f15 3) (dRest Try.f15 4) := d_seq _ 3 (by kernel_rfl)
  rw [e3]
  refine wp_seq (dreg0 ?_ (z := w.heap.size) hF hL4 hne hng ?_)
  · exact fun x a a' w e h => hP x a a' w e h
  intro a w5 ib name flags s0 st hF hG1 hK1 hG2 hK2 hL hX hT hib
  show Code.wp _ (dRest Try.f15 4) _ a w5
  have hib5 : ib < w5.heap.size := by
    rcases Nat.lt_or_ge ib w5.heap.size with h | h
    · exact h
    · rw [Array.getElem?_eq_none h] at hX; cases hX
  have hz45 := hT.size
  have hir : ib ≠ rb := by omega
  have hil : ib ≠ lb := by omega
  have hig : ib ≠ gb := by omega
  have hZ : w5.heap[w.heap.size]? = _ := (hT.block w.heap.size ⟨by have := hB4.size; omega, by omega⟩).trans hZ4
  have hB : Below w.heap.size w w5 := ((Step.of_below hB4).trans (hT.imp (fun x hx => ⟨by have := hB4.size; omega, by omega⟩))).below
  obtain ⟨B, hBB⟩ : ∃ B, B = w5.heap.size := ⟨_, rfl⟩
  have hrB : rb < B := by omega
  have hlB : lb < B := by omega
  have hiB : ib < B := by omega
  have hwB : w.heap.size < B := by omega
  have hBle : B ≤ w5.heap.size := by omega
  have hzi : w.heap.size < ib := by omega
  have hM : ImgM (fun b => B ≤ b ∧ b < w5.heap.size) w5 ⟨.slice none 0 0, .slice none 0 0, .slice none 0 0, .slice none 0 0, .slice none 0 0, .slice none 0 0, .slice none 0 0, .slice none 0 0, .slice none 0 0, .slice none 0 0, .slice none 0 0⟩ ⟨name, flags, [], [], [], [], [], [], 0, [], [], [], [], [], 0⟩ :=
    { imgM_empty _ _ with name := Nat.le_trans hK1 (by decide), flags := okN_int64 hK2 }
  have hX : w5.heap[ib]? = some (imgBlock name flags ⟨.slice none 0 0, .slice none 0 0, .slice none 0 0, .slice none 0 0, .slice none 0 0, .slice none 0 0, .slice none 0 0, .slice none 0 0, .slice none 0 0, .slice none 0 0, .slice none 0 0⟩ 0 0) := hX
  clear hT hZ4 hB4 hL4 hBB hlt4 hrt4 hgt4 hz45 e3
  have e0 : dRest Try.f15 4 = .seq (dCode Try.f15 4) (dRest Try.f15 5) := d_seq _ 4 (by kernel_rfl)
  rw [e0]
  clear e0
  refine wp_seq (dloop1 ?_ (z := w.heap.size) hF hL hX hir hil hig hne hng hib5 ?_)
  · exact fun x a a' w e h => hP x a a' w e h
  intro a w6 m4 segs u1 u2 vsegs hF hGnsegs hmsegs hc hGsegs hK hL6 hX6 hT hPl
  show Code.wp _ (dRest Try.f15 5) _ a w6
  have hZ6 : w6.heap[w.heap.size]? = _ := (hT.block w.heap.size ⟨by omega, by omega, by omega, by omega⟩).trans hZ
  have hB6 : Below w.heap.size w w6 := ((Step.of_below hB).trans (hT.imp (fun x hx => ⟨by omega, by omega, by omega, by omega⟩))).below
  have hz6 := hT.size
  have hM6 := hM.move hT hrB hlB hiB
  have hM7 : ImgM (fun b => B ≤ b ∧ b < w6.heap.size) w6 ⟨vsegs, .slice none 0 0, .slice none 0 0, .slice none 0 0, .slice none 0 0, .slice none 0 0, .slice none 0 0, .slice none 0 0, .slice none 0 0, .slice none 0 0, .slice none 0 0⟩ ⟨name, flags, segs, [], [], [], [], [], 0, [], [], [], [], [], 0⟩ :=
    { hM6 with
      segs := hPl.imp (fun b hb => ⟨by have := hb.1; omega, hb.2⟩)
      segsR := fun s hs => ⟨okN_int64 (hK s hs).1, okN_int64 (hK s hs).2.1, okN_int64 (hK s hs).2.2.1⟩ }
  clear hPl hK hc hmsegs
  clear hM hM6 hT hZ hB hX hL
  replace hib5 : ib < w6.heap.size := by omega
  replace hBle : B ≤ w6.heap.size := by omega
  clear hz6
  have hM := hM7
  have hZ := hZ6
  have hB := hB6
  have hX := hX6
  have hL := hL6
  clear hM7 hZ6 hB6 hX6 hL6
  obtain ⟨w5, hw5⟩ : ∃ x : World, x = w6 := ⟨_, rfl⟩
  subst hw5
  have e0 : dRest Try.f15 5 = .seq (dCode Try.f15 5) (dRest Try.f15 6) := d_seq _ 5 (by kernel_rfl)
  rw [e0]
  clear e0
  refine wp_seq (dloop2 ?_ (z := w.heap.size) hF hL hX hir hil hig hne hng hib5 ?_)
  · exact fun x a a' w e h => hP x a a' w e h
  intro a w6 m5 needs u1 u2 vneeds hF hGnneeds hmneeds hc hGneeds hK hL6 hX6 hT hPl
  show Code.wp _ (dRest Try.f15 6) _ a w6
  have hZ6 : w6.heap[w.heap.size]? = _ := (hT.block w.heap.size ⟨by omega, by omega, by omega, by omega⟩).trans hZ
  have hB6 : Below w.heap.size w w6 := ((Step.of_below hB).trans (hT.imp (fun x hx => ⟨by omega, by omega, by omega, by omega⟩))).below
  have hz6 := hT.size
  have hM6 := hM.move hT hrB hlB hiB
  have hM7 : ImgM (fun b => B ≤ b ∧ b < w6.heap.size) w6 ⟨vsegs, vneeds, .slice none 0 0, .slice none 0 0, .slice none 0 0, .slice none 0 0, .slice none 0 0, .slice none 0 0, .slice none 0 0, .slice none 0 0, .slice none 0 0⟩ ⟨name, flags, segs, needs, [], [], [], [], 0, [], [], [], [], [], 0⟩ :=
    { hM6 with
      needed := hPl.imp (fun b hb => ⟨by have := hb.1; omega, hb.2⟩) }
  clear hPl hK hc hmneeds
  clear hM hM6 hT hZ hB hX hL
  replace hib5 : ib < w6.heap.size := by omega
  replace hBle : B ≤ w6.heap.size := by omega
  clear hz6
  have hM := hM7
  have hZ := hZ6
  have hB := hB6
  have hX := hX6
  have hL := hL6
  clear hM7 hZ6 hB6 hX6 hL6
  obtain ⟨w5, hw5⟩ : ∃ x : World, x = w6 := ⟨_, rfl⟩
  subst hw5
  have e0 : dRest Try.f15 6 = .seq (dCode Try.f15 6) (dRest Try.f15 7) := d_seq _ 6 (by kernel_rfl)
  rw [e0]
  clear e0
  refine wp_seq (dlist6 ?_ (z := w.heap.size) hF hL hX hir hil hig hne hng hib5 ?_)
  · exact fun x a a' w e h => hP x a a' w e h
  intro a w6 m6 runPath u1 u2 vrunPath hF hGnrunPath hmrunPath hc hGrunPath hK hL6 hX6 hT hPl
  show Code.wp _ (dRest Try.f15 7) _ a w6
  have hZ6 : w6.heap[w.heap.size]? = _ := (hT.block w.heap.size ⟨by omega, by omega, by omega, by omega⟩).trans hZ
  have hB6 : Below w.heap.size w w6 := ((Step.of_below hB).trans (hT.imp (fun x hx => ⟨by omega, by omega, by omega, by omega⟩))).below
  have hz6 := hT.size
  have hM6 := hM.move hT hrB hlB hiB
  have hM7 : ImgM (fun b => B ≤ b ∧ b < w6.heap.size) w6 ⟨vsegs, vneeds, vrunPath, .slice none 0 0, .slice none 0 0, .slice none 0 0, .slice none 0 0, .slice none 0 0, .slice none 0 0, .slice none 0 0, .slice none 0 0⟩ ⟨name, flags, segs, needs, runPath, [], [], [], 0, [], [], [], [], [], 0⟩ :=
    { hM6 with
      runPath := hPl.imp (fun b hb => ⟨by have := hb.1; omega, hb.2⟩) }
  clear hPl hK hc hmrunPath
  clear hM hM6 hT hZ hB hX hL
  replace hib5 : ib < w6.heap.size := by omega
  replace hBle : B ≤ w6.heap.size := by omega
  clear hz6
  have hM := hM7
  have hZ := hZ6
  have hB := hB6
  have hX := hX6
  have hL := hL6
  clear hM7 hZ6 hB6 hX6 hL6
  obtain ⟨w5, hw5⟩ : ∃ x : World, x = w6 := ⟨_, rfl⟩
  subst hw5
  have e0 : dRest Try.f15 7 = .seq (dCode Try.f15 7) (dRest Try.f15 8) := d_seq _ 7 (by kernel_rfl)
  rw [e0]
  clear e0
  refine wp_seq (dloop3 ?_ (z := w.heap.size) hF hL hX hir hil hig hne hng hib5 ?_)
  · exact fun x a a' w e h => hP x a a' w e h
  intro a w6 m7 syms u1 u2 vsyms hF hGnsyms hmsyms hc hGsyms hK hL6 hX6 hT hPl
  show Code.wp _ (dRest Try.f15 8) _ a w6
  have hZ6 : w6.heap[w.heap.size]? = _ := (hT.block w.heap.size ⟨by omega, by omega, by omega, by omega⟩).trans hZ
  have hB6 : Below w.heap.size w w6 := ((Step.of_below hB).trans (hT.imp (fun x hx => ⟨by omega, by omega, by omega, by omega⟩))).below
  have hz6 := hT.size
  have hM6 := hM.move hT hrB hlB hiB
  have hM7 : ImgM (fun b => B ≤ b ∧ b < w6.heap.size) w6 ⟨vsegs, vneeds, vrunPath, vsyms, .slice none 0 0, .slice none 0 0, .slice none 0 0, .slice none 0 0, .slice none 0 0, .slice none 0 0, .slice none 0 0⟩ ⟨name, flags, segs, needs, runPath, syms, [], [], 0, [], [], [], [], [], 0⟩ :=
    { hM6 with
      syms := hPl.imp (fun b hb => ⟨by have := hb.1; omega, hb.2⟩) }
  clear hPl hK hc hmsyms
  clear hM hM6 hT hZ hB hX hL
  replace hib5 : ib < w6.heap.size := by omega
  replace hBle : B ≤ w6.heap.size := by omega
  clear hz6
  have hM := hM7
  have hZ := hZ6
  have hB := hB6
  have hX := hX6
  have hL := hL6
  clear hM7 hZ6 hB6 hX6 hL6
  obtain ⟨w5, hw5⟩ : ∃ x : World, x = w6 := ⟨_, rfl⟩
  subst hw5
  have e0 : dRest Try.f15 8 = .seq (dCode Try.f15 8) (dRest Try.f15 9) := d_seq _ 8 (by kernel_rfl)
  rw [e0]
  clear e0
  refine wp_seq (dloop4 ?_ (z := w.heap.size) hF hL hX hir hil hig hne hng hib5 ?_)
  · exact fun x a a' w e h => hP x a a' w e h
  intro a w6 m8 buckets u1 u2 vbuckets hF hGnbuckets hmbuckets hc hGbuckets hK hL6 hX6 hT hPl
  show Code.wp _ (dRest Try.f15 9) _ a w6
  have hZ6 : w6.heap[w.heap.size]? = _ := (hT.block w.heap.size ⟨by omega, by omega, by omega, by omega⟩).trans hZ
  have hB6 : Below w.heap.size w w6 := ((Step.of_below hB).trans (hT.imp (fun x hx => ⟨by omega, by omega, by omega, by omega⟩))).below
  have hz6 := hT.size
  have hM6 := hM.move hT hrB hlB hiB
  have hM7 : ImgM (fun b => B ≤ b ∧ b < w6.heap.size) w6 ⟨vsegs, vneeds, vrunPath, vsyms, vbuckets, .slice none 0 0, .slice none 0 0, .slice none 0 0, .slice none 0 0, .slice none 0 0, .slice none 0 0⟩ ⟨name, flags, segs, needs, runPath, syms, buckets, [], 0, [], [], [], [], [], 0⟩ :=
    { hM6 with
      buckets := hPl.imp (fun b hb => ⟨by have := hb.1; omega, hb.2⟩)
      bucketsL := fun c hc => by
        have h : c.length < 65536 := (hK c hc).1
        omega }
  clear hPl hK hc hmbuckets
  clear hM hM6 hT hZ hB hX hL
  replace hib5 : ib < w6.heap.size := by omega
  replace hBle : B ≤ w6.heap.size := by omega
  clear hz6
  have hM := hM7
  have hZ := hZ6
  have hB := hB6
  have hX := hX6
  have hL := hL6
  clear hM7 hZ6 hB6 hX6 hL6
  obtain ⟨w5, hw5⟩ : ∃ x : World, x = w6 := ⟨_, rfl⟩
  subst hw5
  have e0 : dRest Try.f15 9 = .seq (dCode Try.f15 9) (dRest Try.f15 10) := d_seq _ 9 (by kernel_rfl)
  rw [e0]
  clear e0
  refine wp_seq (dshift ?_ (z := w.heap.size) hF hL hX hir hil hig hne hng hib5 ?_)
  · exact fun x a a' w e h => hP x a a' w e h
  intro a w6 shift u2 hF hGshift hKshift hL6 hX6 hT
  show Code.wp _ (dRest Try.f15 10) _ a w6
  have hZ6 : w6.heap[w.heap.size]? = _ := (hT.block w.heap.size ⟨by omega, by omega, by omega, by omega⟩).trans hZ
  have hB6 : Below w.heap.size w w6 := ((Step.of_below hB).trans (hT.imp (fun x hx => ⟨by omega, by omega, by omega, by omega⟩))).below
  have hz6 := hT.size
  have hM6 := hM.move hT hrB hlB hiB
  have hM7 : ImgM (fun b => B ≤ b ∧ b < w6.heap.size) w6 ⟨vsegs, vneeds, vrunPath, vsyms, vbuckets, .slice none 0 0, .slice none 0 0, .slice none 0 0, .slice none 0 0, .slice none 0 0, .slice none 0 0⟩ ⟨name, flags, segs, needs, runPath, syms, buckets, [], shift, [], [], [], [], [], 0⟩ := { hM6 with shift := okN_int64 hKshift }
  clear hM hM6 hT hZ hB hX hL
  replace hib5 : ib < w6.heap.size := by omega
  replace hBle : B ≤ w6.heap.size := by omega
  clear hz6
  have hM := hM7
  have hZ := hZ6
  have hB := hB6
  have hX := hX6
  have hL := hL6
  clear hM7 hZ6 hB6 hX6 hL6
  obtain ⟨w5, hw5⟩ : ∃ x : World, x = w6 := ⟨_, rfl⟩
  subst hw5
  have e0 : dRest Try.f15 10 = .seq (dCode Try.f15 10) (dRest Try.f15 11) := d_seq _ 10 (by kernel_rfl)
  rw [e0]
  clear e0
  refine wp_seq (dloop5 ?_ (z := w.heap.size) hF hL hX hir hil hig hne hng hib5 ?_)
  · exact fun x a a' w e h => hP x a a' w e h
  intro a w6 m10 words u1 u2 vwords hF hGnwords hmwords hc hGwords hK hL6 hX6 hT hPl
  show Code.wp _ (dRest Try.f15 11) _ a w6
  have hZ6 : w6.heap[w.heap.size]? = _ := (hT.block w.heap.size ⟨by omega, by omega, by omega, by omega⟩).trans hZ
  have hB6 : Below w.heap.size w w6 := ((Step.of_below hB).trans (hT.imp (fun x hx => ⟨by omega, by omega, by omega, by omega⟩))).below
  have hz6 := hT.size
  have hM6 := hM.move hT hrB hlB hiB
  have hM7 : ImgM (fun b => B ≤ b ∧ b < w6.heap.size) w6 ⟨vsegs, vneeds, vrunPath, vsyms, vbuckets, vwords, .slice none 0 0, .slice none 0 0, .slice none 0 0, .slice none 0 0, .slice none 0 0⟩ ⟨name, flags, segs, needs, runPath, syms, buckets, words, shift, [], [], [], [], [], 0⟩ :=
    { hM6 with
      words := hPl.imp (fun b hb => ⟨by have := hb.1; omega, hb.2⟩)
      wordsR := hK }
  clear hPl hK hc hmwords
  clear hM hM6 hT hZ hB hX hL
  replace hib5 : ib < w6.heap.size := by omega
  replace hBle : B ≤ w6.heap.size := by omega
  clear hz6
  have hM := hM7
  have hZ := hZ6
  have hB := hB6
  have hX := hX6
  have hL := hL6
  clear hM7 hZ6 hB6 hX6 hL6
  obtain ⟨w5, hw5⟩ : ∃ x : World, x = w6 := ⟨_, rfl⟩
  subst hw5
  have e0 : dRest Try.f15 11 = .seq (dCode Try.f15 11) (dRest Try.f15 12) := d_seq _ 11 (by kernel_rfl)
  rw [e0]
  clear e0
  refine wp_seq (dloop6 ?_ (z := w.heap.size) hF hL hX hir hil hig hne hng hib5 ?_)
  · exact fun x a a' w e h => hP x a a' w e h
  intro a w6 m11 relocs u1 u2 vrelocs hF hGnrelocs hmrelocs hc hGrelocs hK hL6 hX6 hT hPl
  show Code.wp _ (dRest Try.f15 12) _ a w6
  have hZ6 : w6.heap[w.heap.size]? = _ := (hT.block w.heap.size ⟨by omega, by omega, by omega, by omega⟩).trans hZ
  have hB6 : Below w.heap.size w w6 := ((Step.of_below hB).trans (hT.imp (fun x hx => ⟨by omega, by omega, by omega, by omega⟩))).below
  have hz6 := hT.size
  have hM6 := hM.move hT hrB hlB hiB
  have hM7 : ImgM (fun b => B ≤ b ∧ b < w6.heap.size) w6 ⟨vsegs, vneeds, vrunPath, vsyms, vbuckets, vwords, vrelocs, .slice none 0 0, .slice none 0 0, .slice none 0 0, .slice none 0 0⟩ ⟨name, flags, segs, needs, runPath, syms, buckets, words, shift, relocs, [], [], [], [], 0⟩ :=
    { hM6 with
      relocs := hPl.imp (fun b hb => ⟨by have := hb.1; omega, hb.2⟩)
      relocsR := fun r hr => ⟨okN_int64 (hK r hr).2.2.1, okN_int64 (hK r hr).2.1, okN_int64 (hK r hr).2.2.2⟩ }
  clear hPl hK hc hmrelocs
  clear hM hM6 hT hZ hB hX hL
  replace hib5 : ib < w6.heap.size := by omega
  replace hBle : B ≤ w6.heap.size := by omega
  clear hz6
  have hM := hM7
  have hZ := hZ6
  have hB := hB6
  have hX := hX6
  have hL := hL6
  clear hM7 hZ6 hB6 hX6 hL6
  obtain ⟨w5, hw5⟩ : ∃ x : World, x = w6 := ⟨_, rfl⟩
  subst hw5
  have e0 : dRest Try.f15 12 = .seq (dCode Try.f15 12) (dRest Try.f15 13) := d_seq _ 12 (by kernel_rfl)
  rw [e0]
  clear e0
  refine wp_seq (dloop7 ?_ (z := w.heap.size) hF hL hX hir hil hig hne hng hib5 ?_)
  · exact fun x a a' w e h => hP x a a' w e h
  intro a w6 m12 slots u1 u2 vslots hF hGnslots hmslots hc hGslots hK hL6 hX6 hT hPl
  show Code.wp _ (dRest Try.f15 13) _ a w6
  have hZ6 : w6.heap[w.heap.size]? = _ := (hT.block w.heap.size ⟨by omega, by omega, by omega, by omega⟩).trans hZ
  have hB6 : Below w.heap.size w w6 := ((Step.of_below hB).trans (hT.imp (fun x hx => ⟨by omega, by omega, by omega, by omega⟩))).below
  have hz6 := hT.size
  have hM6 := hM.move hT hrB hlB hiB
  have hM7 : ImgM (fun b => B ≤ b ∧ b < w6.heap.size) w6 ⟨vsegs, vneeds, vrunPath, vsyms, vbuckets, vwords, vrelocs, vslots, .slice none 0 0, .slice none 0 0, .slice none 0 0⟩ ⟨name, flags, segs, needs, runPath, syms, buckets, words, shift, relocs, slots, [], [], [], 0⟩ :=
    { hM6 with
      slots := hPl.imp (fun b hb => ⟨by have := hb.1; omega, hb.2⟩)
      slotsR := fun r hr => ⟨okN_int64 (hK r hr).2.1, okN_int64 (hK r hr).1, okN_int64 (hK r hr).2.2⟩ }
  clear hPl hK hc hmslots
  clear hM hM6 hT hZ hB hX hL
  replace hib5 : ib < w6.heap.size := by omega
  replace hBle : B ≤ w6.heap.size := by omega
  clear hz6
  have hM := hM7
  have hZ := hZ6
  have hB := hB6
  have hX := hX6
  have hL := hL6
  clear hM7 hZ6 hB6 hX6 hL6
  obtain ⟨w5, hw5⟩ : ∃ x : World, x = w6 := ⟨_, rfl⟩
  subst hw5
  have e0 : dRest Try.f15 13 = .seq (dCode Try.f15 13) (dRest Try.f15 14) := d_seq _ 13 (by kernel_rfl)
  rw [e0]
  clear e0
  refine wp_seq (dlist13 ?_ (z := w.heap.size) hF hL hX hir hil hig hne hng hib5 ?_)
  · exact fun x a a' w e h => hP x a a' w e h
  intro a w6 m13 init u1 u2 vinit hF hGninit hminit hc hGinit hK hL6 hX6 hT hPl
  show Code.wp _ (dRest Try.f15 14) _ a w6
  have hZ6 : w6.heap[w.heap.size]? = _ := (hT.block w.heap.size ⟨by omega, by omega, by omega, by omega⟩).trans hZ
  have hB6 : Below w.heap.size w w6 := ((Step.of_below hB).trans (hT.imp (fun x hx => ⟨by omega, by omega, by omega, by omega⟩))).below
  have hz6 := hT.size
  have hM6 := hM.move hT hrB hlB hiB
  have hM7 : ImgM (fun b => B ≤ b ∧ b < w6.heap.size) w6 ⟨vsegs, vneeds, vrunPath, vsyms, vbuckets, vwords, vrelocs, vslots, vinit, .slice none 0 0, .slice none 0 0⟩ ⟨name, flags, segs, needs, runPath, syms, buckets, words, shift, relocs, slots, init, [], [], 0⟩ :=
    { hM6 with
      init := hPl.imp (fun b hb => ⟨by have := hb.1; omega, hb.2⟩)
      initR := fun x hx => okN_int64 (hK x hx) }
  clear hPl hK hc hminit
  clear hM hM6 hT hZ hB hX hL
  replace hib5 : ib < w6.heap.size := by omega
  replace hBle : B ≤ w6.heap.size := by omega
  clear hz6
  have hM := hM7
  have hZ := hZ6
  have hB := hB6
  have hX := hX6
  have hL := hL6
  clear hM7 hZ6 hB6 hX6 hL6
  obtain ⟨w5, hw5⟩ : ∃ x : World, x = w6 := ⟨_, rfl⟩
  subst hw5
  have e0 : dRest Try.f15 14 = .seq (dCode Try.f15 14) (dRest Try.f15 15) := d_seq _ 14 (by kernel_rfl)
  rw [e0]
  clear e0
  refine wp_seq (dlist14 ?_ (z := w.heap.size) hF hL hX hir hil hig hne hng hib5 ?_)
  · exact fun x a a' w e h => hP x a a' w e h
  intro a w6 m14 fini u1 u2 vfini hF hGnfini hmfini hc hGfini hK hL6 hX6 hT hPl
  show Code.wp _ (dRest Try.f15 15) _ a w6
  have hZ6 : w6.heap[w.heap.size]? = _ := (hT.block w.heap.size ⟨by omega, by omega, by omega, by omega⟩).trans hZ
  have hB6 : Below w.heap.size w w6 := ((Step.of_below hB).trans (hT.imp (fun x hx => ⟨by omega, by omega, by omega, by omega⟩))).below
  have hz6 := hT.size
  have hM6 := hM.move hT hrB hlB hiB
  have hM7 : ImgM (fun b => B ≤ b ∧ b < w6.heap.size) w6 ⟨vsegs, vneeds, vrunPath, vsyms, vbuckets, vwords, vrelocs, vslots, vinit, vfini, .slice none 0 0⟩ ⟨name, flags, segs, needs, runPath, syms, buckets, words, shift, relocs, slots, init, fini, [], 0⟩ :=
    { hM6 with
      fini := hPl.imp (fun b hb => ⟨by have := hb.1; omega, hb.2⟩)
      finiR := fun x hx => okN_int64 (hK x hx) }
  clear hPl hK hc hmfini
  clear hM hM6 hT hZ hB hX hL
  replace hib5 : ib < w6.heap.size := by omega
  replace hBle : B ≤ w6.heap.size := by omega
  clear hz6
  have hM := hM7
  have hZ := hZ6
  have hB := hB6
  have hX := hX6
  have hL := hL6
  clear hM7 hZ6 hB6 hX6 hL6
  obtain ⟨w5, hw5⟩ : ∃ x : World, x = w6 := ⟨_, rfl⟩
  subst hw5
  exact dend hF hL hX hir hil hig hne hng hib5 hwB hlB hrB hiB hBle (by omega) (by omega) (by omega) (by omega) hZ hB hM (fun x st' h => got_img hG0 ho hst (hG1.bind (hG2.bind (hGnsegs.bind (hGsegs.bind (hGnneeds.bind (hGneeds.bind (hGnrunPath.bind (hGrunPath.bind (hGnsyms.bind (hGsyms.bind (hGnbuckets.bind (hGbuckets.bind (hGshift.bind (hGnwords.bind (hGwords.bind (hGnrelocs.bind (hGrelocs.bind (hGnslots.bind (hGslots.bind (hGninit.bind (hGinit.bind (hGnfini.bind (hGfini.bind h))))))))))))))))))))))))

end Go.Proofs.Ytbliedldlimpgaa

namespace Go.Proofs.Ytbliedldlimpgaa
set_option linter.unusedVariables false
set_option linter.unusedSimpArgs false
open Go.RowKit

theorem info_word1 : (Try.prog.info? 63).map (fun i => (i.zero, i.size, i.bytes)) = some (some (.int .u64 0), 1, 8) := by kernel_rfl
theorem jm_results {P : Program} {fn : Func} {p u : Tmp} {ty : TypeId} (h : fn.results = #[.cell p ty, .tmp u]) (tmps : Array Value) (w : World) (g : Nat) (t : TypeId) (cs : Array Value) (fr : Nat × Nat) (d : TypeDesc)
    (hp : tmps.getD p undef = .pointer (some ⟨g, 0, none⟩)) (hg : w.heap[g]? = some (.cells cs t fr))
    (hu : P.underlying ty = some d) (hd : (match d with | .struct _ | .array _ _ => true | _ => false) = true) (hi : (P.info? ty).map (·.size) = some cs.size) :
    (results fn tmps).run P w = .ok (.tuple #[.agg cs, tmps.getD u undef]) w := by
  rw [results_cell_tmp h, hp]
  simp [asAddr, run_loadVar_row w g t ty cs fr d hg hu hd hi, Result.andThen]
theorem jm_row (w : World) (g : Nat) (cs : Array Value) : Step (fun x => x ≠ g) w (w.setRow g cs) := ⟨rfl, rfl, rfl, by simp, fun b hb => setRow_other _ _ _ _ hb⟩
theorem jm_below {w w1 w2 : World} {o : Obj} (h : Below (w.alloc o).heap.size (w.alloc o) w1) (k : Step (· < w1.heap.size) w1 w2) : Step (· < (w.alloc o).heap.size) (w.alloc o) w2 :=
  (Step.of_below h).trans (k.imp (fun x hx => Nat.lt_of_lt_of_le hx h.size))
theorem word_lb {w : World} {g : Nat} (h : w.cell? ⟨g, 0, none⟩ = some (.int .u64 0)) : LB kWord (· = g) w (.slice (some ⟨g, 0, none⟩) 1 1) [0] := by
  refine ⟨some ⟨g, 0, none⟩, g, 0, 1, rfl, by decide, fun _ => rfl, ⟨Nat.le_refl _, fun h => by cases h⟩, fun _ => rfl, fun i x hx => ?_⟩
  match i, hx with
  | 0, hx =>
    simp at hx; subst hx
    refine ⟨[.int .u64 0], rfl, fun j u hu => ?_⟩
    match j, hu with
    | 0, hu => simp at hu; subst hu; exact h
    | j + 1, hu => simp at hu
  | i + 1, hx => simp at hx
theorem setCell_row1 {w : World} {b k : Nat} {cs : Array Value} {t : TypeId} {fr : Nat × Nat} (u : Value) (h : w.heap[b]? = some (.cells cs t fr)) : (w.setCell ⟨b, k, none⟩ u).heap[b]? = some (.cells (cs.setIfInBounds k u) t fr) := by
  simp [World.setCell, Array.getElem?_modify, h]
theorem info_ints1 : (Try.prog.info? 35).map (fun i => (i.zero, i.size, i.bytes)) = some (some (.slice none 0 0), 1, 24) := by kernel_rfl

set_option maxHeartbeats 4000000 in
set_option maxRecDepth 100000 in
theorem jcount_zero (w : World) : Calls Try.prog 93 #[.int .i64 0] w fun e w' => e = .returned (.int .i64 1) ∧ w' = w := by
  go_enter Try.func93, Try.ntmps93
  go_wp2
  go_ret
  exact ⟨rfl, rfl⟩
set_option maxHeartbeats 4000000 in
set_option maxRecDepth 100000 in
theorem jwords_zero (w : World) : Calls Try.prog 94 #[.int .i64 0] w fun e w' => e = .returned (.int .i64 1) ∧ w' = w := by
  go_enter Try.func94, Try.ntmps94
  go_wp2
  go_loop [3] (fun i => i = .int .i64 1) (fun _ => 0)
  case atStart => rfl
  case round =>
    subst hrel
    go_wp2
    go_ret
    exact ⟨rfl, rfl⟩

set_option maxHeartbeats 8000000 in
set_option maxRecDepth 100000 in
theorem jmake_nil (w : World) : Calls Try.prog 56 #[.slice none 0 0] w fun e w' => ∃ bv wv, e = .returned (.tuple #[.agg #[bv, wv, .int .i64 6], .int .i64 0]) ∧ Below w.heap.size w w' ∧
    LB kInts (fun b => w.heap.size ≤ b ∧ b < w'.heap.size) w' bv [[]] ∧ LB kWord (fun b => w.heap.size ≤ b ∧ b < w'.heap.size) w' wv [0] := by
  have HSeen := Lib.hid (fun w' => jseenl_any w' (.slice none 0 0) [] (LB.nil _ _ _) (by decide))
  go_enter Try.func56, Try.ntmps56
  go_wp2_with fail
  refine (HSeen.out _).mono ?_
  rintro e w1 ⟨r, rfl, hr, hb1⟩
  obtain ⟨ra, rc, rfl⟩ := hr.form
  have e0 : (toInts (seenIx [])).length = 0 := rfl
  rw [e0]
  clear e0 hr HSeen
  go_wp2_with fail
  refine (jcount_zero _).mono ?_
  rintro e _ ⟨rfl, rfl⟩
  go_wp2_with fail
  refine (jwords_zero _).mono ?_
  rintro e _ ⟨rfl, rfl⟩
  obtain ⟨i0, hi, hz0, hz1, hz2⟩ := info_parts info_word1
  rename World => w1
  have hbase := hb1.size
  go_wp2_with (at_make; refine wpList_make_full _ rfl (.tmp 22) (.tmp 22) 28 rfl w1.heap.size 63 i0 _ 1 Try.underlying28 hi hz0 hz1 .i64 .i64 1 1 1 rfl rfl rfl rfl (by rw [hz2]; decide) (by unfold maxLen; decide) (Nat.le_refl _) ?_)
  intro w2 ho2 hg2
  have hlt2 : w1.heap.size < w2.heap.size := (World.ownsRow.lt ho2 _ rfl).2
  have TW : Hid (LB kWord (· = w1.heap.size) w2 (.slice (some ⟨w1.heap.size, 0, none⟩) 1 1) [0]) := Lib.hid (word_lb (World.ownsRow.cells ho2 (g := w1.heap.size) rfl 0 _ (by simp [madeCells, Value.cells])))
  have S2 : Hid (Step (· < w1.heap.size) w1 w2) := Lib.hid (Step.of_grown hg2 (fun b hb => ⟨hb, by simp⟩))
  have HB1 := Lib.hid hb1
  have hz2 := S2.out.size
  clear ho2 hg2 hb1 hi hz0 hz1
  go_upto_region 6 with fail
  have FT := Lib.hid (heap_alloc_new w2 (.cells #[.slice none 0 0, .slice (some ⟨w1.heap.size, 0, none⟩) 1 1, .int .i64 6] 32 (0, 0)))
  have S3 := Lib.hid (S2.out.alloc (fun b hb => by have hb : b < w1.heap.size := hb; omega) (.cells #[.slice none 0 0, .slice (some ⟨w1.heap.size, 0, none⟩) 1 1, .int .i64 6] 32 (0, 0)))
  have TW3 := Lib.hid (TW.out.keeps (fun b hb => heap_alloc_old w2 (.cells #[.slice none 0 0, .slice (some ⟨w1.heap.size, 0, none⟩) 1 1, .int .i64 6] 32 (0, 0)) (by have hb : b = w1.heap.size := hb; omega)))
  have hz3 : (w2.alloc (.cells #[.slice none 0 0, .slice (some ⟨w1.heap.size, 0, none⟩) 1 1, .int .i64 6] 32 (0, 0))).heap.size = w2.heap.size + 1 := by simp
  have hz3' : w2.heap.size < (w2.alloc (.cells #[.slice none 0 0, .slice (some ⟨w1.heap.size, 0, none⟩) 1 1, .int .i64 6] 32 (0, 0))).heap.size := by omega
  clear hz3 S2 TW
  generalize w2.alloc (.cells #[.slice none 0 0, .slice (some ⟨w1.heap.size, 0, none⟩) 1 1, .int .i64 6] 32 (0, 0)) = w3 at FT S3 TW3 hz3' ⊢
  generalize w2.heap.size = tb at *
  go_wp2_with fail
  go_loopw [7, 8, 9] (fun b ch k wr => ∃ n : Nat, b = .int .i64 n ∧ n ≤ 1 ∧ ∃ bv, wr.heap[tb]? = some (.cells #[bv, .slice (some ⟨w1.heap.size, 0, none⟩) 1 1, .int .i64 6] 32 (0, 0)) ∧ OwnK 35 kInts w3.heap.size (· < w3.heap.size) wr bv (List.replicate n []) ∧ Step (fun x => x < w3.heap.size ∧ x ≠ tb) w3 wr) (fun b _ _ _ => 1 - (intOf b).toNat)
  case atStart => exact ⟨0, rfl, by omega, _, FT.out, OwnK.nil _ _ _ _ _, Step.refl _ _⟩
  case round =>
    obtain ⟨n, rfl, hn, bv, hf, ho, hs⟩ := hrel
    obtain ⟨oa, oc, rfl⟩ := ho.form
    rw [List.length_replicate] at ho hf
    have HF := Lib.hid hf
    have HO := Lib.hid ho
    have HS := Lib.hid hs
    have hzr := hs.size
    clear hf ho hs
    by_cases hlt : n < 1
    · obtain rfl : n = 0 := by omega
      have cI : wr.cell? ⟨tb, 0, none⟩ = some (.slice oa 0 oc) := by rw [Lib.cell_of_heap HF.out]; rfl
      have htb : tb < wr.heap.size := by omega
      go_wp2_with fail
      go_loop [8, 9] (fun ch i => ch = .slice none 0 0 ∧ i = .int .i64 0) (fun _ _ => 0)
      case atStart => exact ⟨rfl, rfl⟩
      case round =>
        obtain ⟨rfl, rfl⟩ := hrel
        have OA := Lib.hid (HO.out.alloc (.cells #[.slice none 0 0] 35 (0, 0)))
        have NA := Lib.hid (heap_alloc_new wr (.cells #[.slice none 0 0] 35 (0, 0)))
        have XA := Lib.hid ((heap_alloc_old wr (.cells #[.slice none 0 0] 35 (0, 0)) htb).trans HF.out)
        have HA := Lib.hid (HS.out.alloc (fun b hb => by have := hb.1; omega) (.cells #[.slice none 0 0] 35 (0, 0)))
        have hza : wr.heap.size < (wr.alloc (.cells #[.slice none 0 0] 35 (0, 0))).heap.size := by simp
        go_wp2_with (at_builtin; refine wpList_appendK (K := kInts) (v := .slice oa 0 oc) (e := 35) (B := w3.heap.size) (E := (· < w3.heap.size)) 27 (.slice none 0 0) 24 Try.underlying27 info_ints1 rfl (by decide) rfl (.tmp 57) (.tmp 59) rfl 0 (by rfl) rfl OA.out (fun b hb => by have hb : b < w3.heap.size := hb; omega) wr.heap.size ([] : List Int) [.slice none 0 0] rfl (row_one _ _ _ ((Lib.cell_of_heap NA.out 0).trans rfl)) (fun u hu => by simp at hu; subst hu; rfl) ⟨_, rfl, LB.nil _ _ _⟩ (by decide) (by decide) (by omega) ?_)
        intro g c w9 ho9 hs9 hg9
        have hno := OA.out.notE
        have S9 : Step (fun x => x < w3.heap.size) (wr.alloc (.cells #[.slice none 0 0] 35 (0, 0))) w9 := hs9.imp (fun x hx => ⟨by have hx : x < w3.heap.size := hx; omega, fun e => hno x e hx⟩)
        have X9 := Lib.hid ((S9.block tb hz3').trans XA.out)
        have cI : w9.cell? ⟨tb, 0, none⟩ = some (.slice oa 0 oc) := by rw [Lib.cell_of_heap X9.out]; rfl
        have fI : w9.frozen? ⟨tb, 0, none⟩ = false := Lib.frozen_of_heap X9.out 0
        have Hfin := Lib.hid (ho9.step (setCell_step w9 tb 0 (.slice (some ⟨g, 0, none⟩) (0 + 1) c)) (fun b _ hb e => hb (by rw [e]; exact hz3')))
        have X10 := Lib.hid (setCell_row1 (k := 0) (.slice (some ⟨g, 0, none⟩) (0 + 1) c) X9.out)
        have S10 := Lib.hid ((HA.out.trans (S9.imp (fun x hx => hx.1))).trans ((setCell_step w9 tb 0 (.slice (some ⟨g, 0, none⟩) (0 + 1) c)).imp (fun x hx => hx.2)))
        clear ho9 hs9 hg9 S9 hno
        go_wp2_with fail
        go_roundw
        case rel => exact ⟨1, by go_num, by omega, _, X10.out, Hfin.out, S10.out⟩
        case measure => simp [intOf]
    · obtain rfl : n = 1 := by omega
      have SA : Hid (Step (· < (w.alloc (.cells #[.slice none 0 0, .slice none 0 0, .int .i64 0] 32 (0, 0))).heap.size) (w.alloc (.cells #[.slice none 0 0, .slice none 0 0, .int .i64 0] 32 (0, 0))) wr) := Lib.hid ((jm_below HB1.out S3.out).trans (HS.out.imp (fun x hx => by have hx : x < (w.alloc (.cells #[.slice none 0 0, .slice none 0 0, .int .i64 0] 32 (0, 0))).heap.size := hx; have := S3.out.size; exact ⟨by omega, by show x ≠ tb; omega⟩)))
      have hw0 : (w.alloc (.cells #[.slice none 0 0, .slice none 0 0, .int .i64 0] 32 (0, 0))).heap.size = w.heap.size + 1 := by simp
      have FM := Lib.hid ((SA.out.block w.heap.size (by show _ < _; rw [hw0]; omega)).trans (heap_alloc_new w (.cells #[.slice none 0 0, .slice none 0 0, .int .i64 0] 32 (0, 0))))
      have hwb : w.heap.size < w1.heap.size := by omega
      have LBb : Hid (LB kInts (fun b => w.heap.size < b ∧ b < wr.heap.size) wr (.slice oa 1 oc) [[]]) := Lib.hid (HO.out.lb.imp (fun b hb => ⟨by have := hb.2; have := S3.out.size; omega, hb.1⟩))
      have LBw : Hid (LB kWord (fun b => w.heap.size < b ∧ b < wr.heap.size) wr (.slice (some ⟨w1.heap.size, 0, none⟩) 1 1) [0]) := Lib.hid ((TW3.out.keeps (fun b hb => HS.out.block b ⟨by have hb : b = w1.heap.size := hb; omega, by have hb : b = w1.heap.size := hb; omega⟩)).imp (fun b hb => ⟨by have hb : b = w1.heap.size := hb; omega, by have hb : b = w1.heap.size := hb; omega⟩))
      clear HO TW3 HS
      go_wp2_with fail
      go_loop [10] (fun i => i = .int .i64 0) (fun _ => 0)
      case atStart => rfl
      case round =>
        subst hrel
        go_wp2_with (first | refine wpList_load_row rfl 32 (.tmp 6) rfl tb rfl _ _ _ _ HF.out Try.underlying32 rfl (by kernel_rfl) ?_ | refine wpList_store_row rfl 32 (.tmp 2) (.tmp 82) rfl w.heap.size #[.slice oa 1 oc, .slice (some ⟨w1.heap.size, 0, none⟩) 1 1, .int .i64 6] rfl rfl _ _ FM.out (by kernel_rfl) rfl (by simp [Value.oneCell']) ?_)
        go_wp2_with (first | refine wpList_load_row rfl 32 (.tmp 6) rfl tb rfl _ _ _ _ HF.out Try.underlying32 rfl (by kernel_rfl) ?_ | refine wpList_store_row rfl 32 (.tmp 2) (.tmp 82) rfl w.heap.size #[.slice oa 1 oc, .slice (some ⟨w1.heap.size, 0, none⟩) 1 1, .int .i64 6] rfl rfl _ _ FM.out (by kernel_rfl) rfl (by simp [Value.oneCell']) ?_)
        go_wp2_with fail
        have FR := Lib.hid (setRow_heap _ w.heap.size _ #[.slice oa 1 oc, .slice (some ⟨w1.heap.size, 0, none⟩) 1 1, .int .i64 6] _ _ FM.out)
        refine bodyPost_ret (jm_results rfl _ _ w.heap.size _ _ _ _ rfl FR.out Try.underlying32 rfl (by kernel_rfl)) rfl ?_
        refine ⟨.slice oa 1 oc, .slice (some ⟨w1.heap.size, 0, none⟩) 1 1, rfl, ?_, ?_, ?_⟩
        · exact (((Step.of_below ((Below.refl w.heap.size w).alloc (Nat.le_refl _) _)).trans (SA.out.imp (fun x hx => by have hx : x < w.heap.size := hx; show _ < _; rw [hw0]; omega))).trans ((jm_row wr w.heap.size #[.slice oa 1 oc, .slice (some ⟨w1.heap.size, 0, none⟩) 1 1, .int .i64 6]).imp (fun x hx => Nat.ne_of_lt hx))).below
        · exact (LBb.out.keeps (fun b hb => setRow_other _ _ _ _ (Nat.ne_of_gt hb.1))).imp (fun b hb => ⟨by have := hb.1; omega, by have := hb.2; simpa using this⟩)
        · exact (LBw.out.keeps (fun b hb => setRow_other _ _ _ _ (Nat.ne_of_gt hb.1))).imp (fun b hb => ⟨by have := hb.1; omega, by have := hb.2; simpa using this⟩)

end Go.Proofs.Ytbliedldlimpgaa
