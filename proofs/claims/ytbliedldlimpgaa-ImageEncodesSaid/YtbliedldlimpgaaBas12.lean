/- Lemmas that the claim is proved from: what calls of functions of the program come to (contracts), and plain laws. Each lemma bears its own conditions. -/
import Derived.Test.YtbliedldlimpgaaBas11

namespace Go.Proofs.Ytbliedldlimpgaa
set_option linter.unusedVariables false
set_option linter.unusedSimpArgs false
open Go.RowKit

/-- a slot's number are Go's -/
def SlotOk (s : SlotL) : Prop := (-9223372036854775808 ≤ s.sym ∧ s.sym ≤ 9223372036854775807) ∧ (-9223372036854775808 ≤ s.at_ ∧ s.at_ ≤ 9223372036854775807) ∧ (-9223372036854775808 ≤ s.stub ∧ s.stub ≤ 9223372036854775807)
def meetB (im : ImgL) (s : SlotL) (r : RelL) : Bool := decide (r.at_ < s.at_ + 8) && decide (s.at_ < r.at_ + wideL im r)
theorem slotB_parts (im : ImgL) (s : SlotL) : slotB im s = ((match symAt im s.sym with
   | some x => decide (x.kind = 1)
   | none => false) && holdsB im.segs s.at_ 8 0 && holdsB im.segs s.stub 8 4 && im.relocs.all fun r => !meetB im s r) := rfl
theorem slotsFrom_low {im : ImgL} {e : Int} {s : SlotL} {l : List SlotL} (h : ¬ e ≤ s.at_) : slotsFrom im e (s :: l) = false := by rw [slotsFrom, decide_eq_false (p := e ≤ s.at_) h]; rfl
theorem slotsFrom_bad {im : ImgL} {e : Int} {s : SlotL} {l : List SlotL} (h : slotB im s = false) : slotsFrom im e (s :: l) = false := by rw [slotsFrom, h]; simp
theorem slotsFrom_ok {im : ImgL} {e : Int} {s : SlotL} {l : List SlotL} (h : e ≤ s.at_) (h2 : slotB im s = true) : slotsFrom im e (s :: l) = slotsFrom im (s.at_ + 8) l := by rw [slotsFrom, h2, decide_eq_true (p := e ≤ s.at_) h]; rfl
theorem slotB_none {im : ImgL} {s : SlotL} (h : symAt im s.sym = none) : slotB im s = false := by rw [slotB_parts, h]; rfl
theorem slotB_kind {im : ImgL} {s : SlotL} {x : SymL} (h : symAt im s.sym = some x) (hk : x.kind ≠ 1) : slotB im s = false := by rw [slotB_parts, h]; simp [hk]
theorem slotB_at {im : ImgL} {s : SlotL} (h : holdsB im.segs s.at_ 8 0 = false) : slotB im s = false := by rw [slotB_parts, h]; simp
theorem slotB_stub {im : ImgL} {s : SlotL} (h : holdsB im.segs s.stub 8 4 = false) : slotB im s = false := by rw [slotB_parts, h]; simp
theorem slotB_meet {im : ImgL} {s : SlotL} {r : RelL} {q : Nat} (hr : im.relocs[q]? = some r) (h : meetB im s r = true) : slotB im s = false := by
  have : (im.relocs.all fun r => !meetB im s r) = false := by rw [List.all_eq_false]; exact ⟨r, List.mem_of_getElem? hr, by simp [h]⟩
  rw [slotB_parts, this]; simp
theorem slotB_ok {im : ImgL} {s : SlotL} {x : SymL} (h : symAt im s.sym = some x) (hk : x.kind = 1) (h1 : holdsB im.segs s.at_ 8 0 = true) (h2 : holdsB im.segs s.stub 8 4 = true) (h3 : (im.relocs.all fun r => !meetB im s r) = true) : slotB im s = true := by
  rw [slotB_parts, h, h1, h2, h3]; simp [hk]

set_option maxHeartbeats 16000000 in
set_option maxRecDepth 100000 in
theorem islots_any (w : World) (v : ImgV) (im : ImgL) (hs : LB kSeg (· < w.heap.size) w v.segs im.segs) (hg : segsB im.segs = true) (hy : LB kSym (· < w.heap.size) w v.syms im.syms)
    (hr : LB kRel (· < w.heap.size) w v.relocs im.relocs) (hrr : ∀ r ∈ im.relocs, RelOk r) (hrel : relocsB im = true) (hsz : ∀ s ∈ im.syms, 0 ≤ s.size ∧ s.size ≤ 9223372036854775807) (hsl : im.syms.length ≤ 512)
    (ht : LB kSlot (· < w.heap.size) w v.slots im.slots) (hto : ∀ s ∈ im.slots, SlotOk s) :
    Calls Try.prog 25 #[.agg (imgCells v im)] w fun e w' => e = .returned (.bool (slotsB im)) ∧ Below w.heap.size w w' := by
  obtain ⟨ra, rb, roff, rcap, hrv, hrm, hrc, hrat⟩ := hr.at
  obtain ⟨ta, tb, toff, tcap, htv, htm, htc, htat⟩ := ht.at
  obtain ⟨vsegs, vneeded, vrunPath, vsyms, vbuckets, vwords, vrelocs, vslots, vinit, vfini, vtls⟩ := v
  simp only at hrv htv
  subst hrv htv
  have HH : Hid (∀ (w' : World) (x n p : Int), Below w.heap.size w w' → (-9223372036854775808 ≤ x ∧ x ≤ 9223372036854775807) → (0 ≤ n ∧ n ≤ 9223372036854775807) → p = 0 ∨ p = 2 ∨ p = 4 →
    Calls Try.prog 59 #[.agg (imgCells ⟨vsegs, vneeded, vrunPath, vsyms, vbuckets, vwords, .slice ra im.relocs.length rcap, .slice ta im.slots.length tcap, vinit, vfini, vtls⟩ im), .agg #[.int .i64 x, .int .i64 n, .int .i64 p]] w' fun e w'' => e = .returned (.bool (holdsB im.segs x n p)) ∧ Below w'.heap.size w' w'') := Lib.hid (fun w' x n p hb hx hn hp => holds_any w' _ im x n p ((hs.below hb).mono hb.size) (segOk_of hg) hx hn hp)
  have HS : Hid (∀ (w' : World) (i : Int), Below w.heap.size w w' → (-9223372036854775808 ≤ i ∧ i ≤ 9223372036854775807) → Calls Try.prog 69 #[.agg (imgCells ⟨vsegs, vneeded, vrunPath, vsyms, vbuckets, vwords, .slice ra im.relocs.length rcap, .slice ta im.slots.length tcap, vinit, vfini, vtls⟩ im), .int .i64 i] w' fun e w'' => e = .returned (symV im i) ∧ Below w'.heap.size w' w'') := Lib.hid (fun w' i hb hi => isym_any w' _ im i ((hy.below hb).mono hb.size) hi)
  have HW : Hid (∀ (w' : World) (r : RelL), Below w.heap.size w w' → RelOk r →
    Calls Try.prog 68 #[.agg (imgCells ⟨vsegs, vneeded, vrunPath, vsyms, vbuckets, vwords, .slice ra im.relocs.length rcap, .slice ta im.slots.length tcap, vinit, vfini, vtls⟩ im), .agg #[.int .i64 r.at_, .int .i64 r.kind, .int .i64 r.sym, .int .i64 r.add]] w' fun e w'' => e = .returned (.int .i64 (wideL im r)) ∧ Below w'.heap.size w' w'') := Lib.hid (fun w' r hb hx => iwide_any w' _ im r ((hy.below hb).mono hb.size) hx.1)
  unfold imgCells at *
  have Hrat := Lib.hid hrat
  have Htat := Lib.hid htat
  have Hrr := Lib.hid hrr
  have Hto := Lib.hid hto
  have Hsz := Lib.hid hsz
  have HD : Hid (slotsB im = (decide (im.slots.length ≤ 128) && slotsFrom im 0 im.slots)) := Lib.hid rfl
  have Hg := Lib.hid hg
  have Hrel : Hid (∀ r ∈ im.relocs, relocB im r = true) := Lib.hid (by
    have h := hrel
    simp only [relocsB, Bool.and_eq_true] at h
    exact relocsFrom_each im _ _ h.2)
  clear hs hg hy hr hrr hrel hsz ht hto hrat htat
  generalize hI : (Array.mk [.string ⟨im.name.toArray⟩, .int .i64 im.flags, vsegs, vneeded, vrunPath, vsyms, vbuckets, vwords, .int .i64 im.shift, .slice ra im.relocs.length rcap, .slice ta im.slots.length tcap, vinit, vfini, vtls, .int .i64 im.tlsSize] : Array Value) = I at HH HS HW
  have F0 := Lib.hid (heap_alloc_new w (.cells I 38 (0, 0)))
  have B1 := Lib.hid ((Below.refl w.heap.size w).alloc (Nat.le_refl _) (.cells I 38 (0, 0)))
  subst hI
  go_enter Try.func25, Try.ntmps25
  go_wp2_with fail
  go_loopw [3, 13] (fun e i wr => ∃ (k : Nat) (x : Int), i = .int .i64 k ∧ e = .int .i64 x ∧ 0 ≤ x ∧ x ≤ 100000 ∧ k ≤ im.slots.length ∧ slotsFrom im 0 im.slots = slotsFrom im x (im.slots.drop k) ∧ Below w.heap.size w wr ∧
    wr.heap[w.heap.size]? = some (.cells #[.string ⟨im.name.toArray⟩, .int .i64 im.flags, vsegs, vneeded, vrunPath, vsyms, vbuckets, vwords, .int .i64 im.shift, .slice ra im.relocs.length rcap, .slice ta im.slots.length tcap, vinit, vfini, vtls, .int .i64 im.tlsSize] 38 (0, 0)) ∧ w.heap.size < wr.heap.size) (fun _ i _ => im.slots.length - (intOf i).toNat)
  case atStart => exact ⟨0, 0, rfl, rfl, by decide, by decide, Nat.zero_le _, by simp, B1.out, F0.out, by simp⟩
  case round =>
    obtain ⟨k, x, rfl, rfl, hx0, hx1, hk, hse, hbel, hF, hzq⟩ := hrel
    have Hse := Lib.hid hse
    have Hbel := Lib.hid hbel
    have hBr := hbel.size
    clear hse
    by_cases hlt : k < im.slots.length
    · obtain rfl := Htat.out.addr (by omega)
      obtain ⟨s, hx⟩ : ∃ s, im.slots[k]? = some s := ⟨_, List.getElem?_eq_getElem hlt⟩
      obtain ⟨g0, g1, g2⟩ := (Htat.out.below hbel).slot3 k s hx
      have hso := Hto.out s (List.mem_of_getElem? hx)
      have hsa := hso.2.1
      have Hso := Lib.hid hso
      have Hdc := Lib.hid (drop_cons im.slots k s hx)
      have hsb := World.block_lt_of_cell? _ _ g0
      have HFs := Lib.hid (heap_alloc_new wr (.cells #[.int .i64 s.at_, .int .i64 s.sym, .int .i64 s.stub] 69 (0, 0)))
      have HFi := Lib.hid ((heap_alloc_old wr (.cells #[.int .i64 s.at_, .int .i64 s.sym, .int .i64 s.stub] 69 (0, 0)) hzq).trans hF)
      have HBs := Lib.hid (Hbel.out.alloc hBr (.cells #[.int .i64 s.at_, .int .i64 s.sym, .int .i64 s.stub] 69 (0, 0)))
      clear hx hbel hF Hbel hso
      go_upto_region 5 with fail
      have hz1 : (wr.alloc (.cells #[.int .i64 s.at_, .int .i64 s.sym, .int .i64 s.stub] 69 (0, 0))).heap.size = wr.heap.size + 1 := by simp
      generalize wr.alloc (.cells #[.int .i64 s.at_, .int .i64 s.sym, .int .i64 s.stub] 69 (0, 0)) = w1 at *
      generalize wr.heap.size = zs at *
      have t0 : w1.cell? ⟨zs, 0, none⟩ = some (.int .i64 s.at_) := by rw [Lib.cell_of_heap HFs.out]; rfl
      have t1 : w1.cell? ⟨zs, 1, none⟩ = some (.int .i64 s.sym) := by rw [Lib.cell_of_heap HFs.out]; rfl
      have t2 : w1.cell? ⟨zs, 2, none⟩ = some (.int .i64 s.stub) := by rw [Lib.cell_of_heap HFs.out]; rfl
      obtain ⟨i0, i1, i2, i3, i4, i5, i6, i7, i8, i9, i10, i11, i12, i13, i14⟩ := img_cells HFi.out
      clear g0 g1 g2
      go_wp2_with fail
      refine (HS.out w1 s.sym HBs.out Hso.out.1).mono ?_
      rintro e w2 ⟨rfl, hb2⟩
      have hz2 := hb2.size
      have F2 := Lib.hid ((hb2.block w.heap.size (by omega)).trans HFi.out)
      have S2 := Lib.hid ((hb2.block zs (by omega)).trans HFs.out)
      have B2 := Lib.hid (HBs.out.trans (hb2.mono (by omega)))
      clear hb2 i0 i1 i2 i3 i4 i5 i6 i7 i8 i9 i10 i11 i12 i13 i14 t0 t1 t2
      cases hsy : symAt im s.sym with
      | none =>
        have hv : symV im s.sym = .tuple #[.agg #[.string ⟨#[]⟩, .string ⟨#[]⟩, .bool false, .int .i64 0, .bool false, .int .i64 0, .bool false, .int .i64 0, .int .i64 0], .bool false] := by rw [symV, symD, hsy]; rfl
        rw [hv]
        have Hn : Hid (slotsB im = false) := Lib.hid (by rw [HD.out, Hse.out, Hdc.out, slotsFrom_bad (slotB_none hsy)]; simp)
        have B3 := Lib.hid (B2.out.alloc (by omega) (.cells #[.string ⟨#[]⟩, .string ⟨#[]⟩, .bool false, .int .i64 0, .bool false, .int .i64 0, .bool false, .int .i64 0, .int .i64 0] 54 (0, 0)))
        clear hv hsy
        go_wp2
        go_ret
        exact ⟨by rw [Hn.out]; rfl, B3.out⟩
      | some y =>
        have hv : symV im s.sym = .tuple #[.agg #[.string ⟨y.name.toArray⟩, .string ⟨y.version.toArray⟩, .bool y.old, .int .i64 y.kind, .bool y.weak, .int .i64 y.vis, .bool y.defined, .int .i64 y.value, .int .i64 y.size], .bool true] := by rw [symV, symD, hsy]; rfl
        rw [hv]
        have Hsy := Lib.hid hsy
        have Y3 := Lib.hid (heap_alloc_new w2 (.cells #[.string ⟨y.name.toArray⟩, .string ⟨y.version.toArray⟩, .bool y.old, .int .i64 y.kind, .bool y.weak, .int .i64 y.vis, .bool y.defined, .int .i64 y.value, .int .i64 y.size] 54 (0, 0)))
        have S3 := Lib.hid ((heap_alloc_old w2 (.cells #[.string ⟨y.name.toArray⟩, .string ⟨y.version.toArray⟩, .bool y.old, .int .i64 y.kind, .bool y.weak, .int .i64 y.vis, .bool y.defined, .int .i64 y.value, .int .i64 y.size] 54 (0, 0)) (r := zs) (by omega)).trans S2.out)
        have F3 := Lib.hid ((heap_alloc_old w2 (.cells #[.string ⟨y.name.toArray⟩, .string ⟨y.version.toArray⟩, .bool y.old, .int .i64 y.kind, .bool y.weak, .int .i64 y.vis, .bool y.defined, .int .i64 y.value, .int .i64 y.size] 54 (0, 0)) (r := w.heap.size) (by omega)).trans F2.out)
        have B3 := Lib.hid (B2.out.alloc (by omega) (.cells #[.string ⟨y.name.toArray⟩, .string ⟨y.version.toArray⟩, .bool y.old, .int .i64 y.kind, .bool y.weak, .int .i64 y.vis, .bool y.defined, .int .i64 y.value, .int .i64 y.size] 54 (0, 0)))
        clear hv hsy S2 F2 B2
        go_upto_region 6 with fail
        have hz3 : (w2.alloc (.cells #[.string ⟨y.name.toArray⟩, .string ⟨y.version.toArray⟩, .bool y.old, .int .i64 y.kind, .bool y.weak, .int .i64 y.vis, .bool y.defined, .int .i64 y.value, .int .i64 y.size] 54 (0, 0))).heap.size = w2.heap.size + 1 := by simp
        generalize w2.alloc (.cells #[.string ⟨y.name.toArray⟩, .string ⟨y.version.toArray⟩, .bool y.old, .int .i64 y.kind, .bool y.weak, .int .i64 y.vis, .bool y.defined, .int .i64 y.value, .int .i64 y.size] 54 (0, 0)) = w3 at *
        obtain ⟨y0, y1, y2, y3, y4, y5, y6, y7, y8⟩ := sym_cells Y3.out
        have t0 : w3.cell? ⟨zs, 0, none⟩ = some (.int .i64 s.at_) := by rw [Lib.cell_of_heap S3.out]; rfl
        have t2 : w3.cell? ⟨zs, 2, none⟩ = some (.int .i64 s.stub) := by rw [Lib.cell_of_heap S3.out]; rfl
        by_cases hk1 : y.kind = 1
        case neg =>
          have Hn : Hid (slotsB im = false) := Lib.hid (by rw [HD.out, Hse.out, Hdc.out, slotsFrom_bad (slotB_kind Hsy.out hk1)]; simp)
          have b1 : (y.kind != 1) = true := by rw [bne_iff_ne]; exact hk1
          go_wp2
          go_ret
          exact ⟨by rw [Hn.out]; rfl, B3.out⟩
        have b1 : (y.kind != 1) = false := by rw [bne_eq_false_iff_eq]; exact hk1
        by_cases h1 : x ≤ s.at_
        case neg =>
          have Hn : Hid (slotsB im = false) := Lib.hid (by rw [HD.out, Hse.out, Hdc.out, slotsFrom_low h1]; simp)
          have hd : decide (s.at_ < x) = true := by rw [decide_eq_true_eq]; omega
          go_wp2
          go_ret
          exact ⟨by rw [Hn.out]; rfl, B3.out⟩
        have hd : decide (s.at_ < x) = false := by rw [decide_eq_false_iff_not]; omega
        obtain ⟨i0, i1, i2, i3, i4, i5, i6, i7, i8, i9, i10, i11, i12, i13, i14⟩ := img_cells F3.out
        have HH1 := Lib.hid (HH.out w3 s.at_ 8 0 B3.out Hso.out.2.1 (by decide) (by decide))
        go_wp2_with fail
        refine HH1.out.mono ?_
        rintro e w4 ⟨rfl, hb4⟩
        have hz4 := hb4.size
        have F4 := Lib.hid ((hb4.block w.heap.size (by omega)).trans F3.out)
        have S4 := Lib.hid ((hb4.block zs (by omega)).trans S3.out)
        have B4 := Lib.hid (B3.out.trans (hb4.mono (by omega)))
        clear hb4 i0 i1 i2 i3 i4 i5 i6 i7 i8 i9 i10 i11 i12 i13 i14 t0 t2 y0 y1 y2 y3 y4 y5 y6 y7 y8 Y3 HH1
        cases hh1 : holdsB im.segs s.at_ 8 0 with
        | false =>
          have Hn : Hid (slotsB im = false) := Lib.hid (by rw [HD.out, Hse.out, Hdc.out, slotsFrom_bad (slotB_at hh1)]; simp)
          clear hh1
          go_wp2
          go_ret
          exact ⟨by rw [Hn.out]; rfl, B4.out⟩
        | true =>
          have hat := holds_range (segs_good Hg.out) hh1
          have Hh1 := Lib.hid hh1
          clear hh1
          obtain ⟨i0, i1, i2, i3, i4, i5, i6, i7, i8, i9, i10, i11, i12, i13, i14⟩ := img_cells F4.out
          have t0 : w4.cell? ⟨zs, 0, none⟩ = some (.int .i64 s.at_) := by rw [Lib.cell_of_heap S4.out]; rfl
          have t2 : w4.cell? ⟨zs, 2, none⟩ = some (.int .i64 s.stub) := by rw [Lib.cell_of_heap S4.out]; rfl
          have HH2 := Lib.hid (HH.out w4 s.stub 8 4 B4.out Hso.out.2.2 (by decide) (by decide))
          go_wp2_with fail
          refine HH2.out.mono ?_
          rintro e w5 ⟨rfl, hb5⟩
          have hz5 := hb5.size
          have F5 := Lib.hid ((hb5.block w.heap.size (by omega)).trans F4.out)
          have S5 := Lib.hid ((hb5.block zs (by omega)).trans S4.out)
          have B5 := Lib.hid (B4.out.trans (hb5.mono (by omega)))
          clear hb5 i0 i1 i2 i3 i4 i5 i6 i7 i8 i9 i10 i11 i12 i13 i14 t0 t2 HH2
          cases hh2 : holdsB im.segs s.stub 8 4 with
          | false =>
            have Hn : Hid (slotsB im = false) := Lib.hid (by rw [HD.out, Hse.out, Hdc.out, slotsFrom_bad (slotB_stub hh2)]; simp)
            clear hh2
            go_wp2
            go_ret
            exact ⟨by rw [Hn.out]; rfl, B5.out⟩
          | true =>
            have Hh2 := Lib.hid hh2
            clear hh2
            obtain ⟨i0, i1, i2, i3, i4, i5, i6, i7, i8, i9, i10, i11, i12, i13, i14⟩ := img_cells F5.out
            clear i0 i1 i2 i3 i4 i5 i6 i7 i8 i10 i11 i12 i13 i14
            go_wp2_with fail
            go_loopw [56] (fun i wi => ∃ (q : Nat), i = .int .i64 q ∧ q ≤ im.relocs.length ∧ (im.relocs.take q).all (fun r => !meetB im s r) = true ∧ Below w5.heap.size w5 wi) (fun i _ => im.relocs.length - (intOf i).toNat)
            case atStart => exact ⟨0, rfl, Nat.zero_le _, rfl, Below.refl _ _⟩
            case round =>
              obtain ⟨q, rfl, hq, hall, hbi⟩ := hrel
              have Hall := Lib.hid hall
              have Hbi := Lib.hid hbi
              have hzi := hbi.size
              clear hall
              have F6 := (hbi.block w.heap.size (by omega)).trans F5.out
              have S6 := (hbi.block zs (by omega)).trans S5.out
              by_cases hlt2 : q < im.relocs.length
              · obtain rfl := Hrat.out.addr (by omega)
                obtain ⟨r, hxr⟩ : ∃ r, im.relocs[q]? = some r := ⟨_, List.getElem?_eq_getElem hlt2⟩
                obtain ⟨g0, g1, g2, g3⟩ := (Hrat.out.below (B5.out.trans (hbi.mono (by omega)))).rel4 q r hxr
                have hro := Hrr.out r (List.mem_of_getElem? hxr)
                have hrg := reloc_good Hg.out hsl (Hrel.out r (List.mem_of_getElem? hxr))
                have Hsq := Lib.hid (all_take_snoc (fun r => !meetB im s r) im.relocs q r hxr)
                have Hbad := Lib.hid (slotB_meet (im := im) (s := s) hxr)
                have Hm : Hid (meetB im s r = (decide (r.at_ < s.at_ + 8) && decide (s.at_ < r.at_ + wideL im r))) := Lib.hid rfl
                have hw0 : 0 ≤ wideL im r := by
                  unfold wideL
                  split
                  · rename_i s' hs'
                    have := (Hsz.out s' (symAt_range hs').2.2).1
                    split <;> omega
                  · omega
                have Hro := Lib.hid hro
                obtain ⟨wd, hwd⟩ : ∃ wd, wideL im r = wd := ⟨_, rfl⟩
                have HWr := Lib.hid (fun w' hb => HW.out w' r hb Hro.out)
                rw [hwd] at HWr hrg hw0 Hm
                have hsbw := World.block_lt_of_cell? _ _ g0
                have R7 := heap_alloc_new wr (.cells #[.int .i64 r.at_, .int .i64 r.kind, .int .i64 r.sym, .int .i64 r.add] 57 (0, 0))
                have F7 := (heap_alloc_old wr (.cells #[.int .i64 r.at_, .int .i64 r.kind, .int .i64 r.sym, .int .i64 r.add] 57 (0, 0)) (r := w.heap.size) (by omega)).trans F6
                have S7 := (heap_alloc_old wr (.cells #[.int .i64 r.at_, .int .i64 r.kind, .int .i64 r.sym, .int .i64 r.add] 57 (0, 0)) (r := zs) (by omega)).trans S6
                have B7 := Lib.hid (Hbi.out.alloc hzi (.cells #[.int .i64 r.at_, .int .i64 r.kind, .int .i64 r.sym, .int .i64 r.add] 57 (0, 0)))
                clear hxr hbi Hbi hro hwd F6 S6
                go_upto_region 11 with fail
                have hz7 : (wr.alloc (.cells #[.int .i64 r.at_, .int .i64 r.kind, .int .i64 r.sym, .int .i64 r.add] 57 (0, 0))).heap.size = wr.heap.size + 1 := by simp
                generalize wr.alloc (.cells #[.int .i64 r.at_, .int .i64 r.kind, .int .i64 r.sym, .int .i64 r.add] 57 (0, 0)) = w7 at *
                have t0 : w7.cell? ⟨zs, 0, none⟩ = some (.int .i64 s.at_) := by rw [Lib.cell_of_heap S7]; rfl
                have r0 : w7.cell? ⟨wr.heap.size, 0, none⟩ = some (.int .i64 r.at_) := by rw [Lib.cell_of_heap R7]; rfl
                have r1 : w7.cell? ⟨wr.heap.size, 1, none⟩ = some (.int .i64 r.kind) := by rw [Lib.cell_of_heap R7]; rfl
                have r2 : w7.cell? ⟨wr.heap.size, 2, none⟩ = some (.int .i64 r.sym) := by rw [Lib.cell_of_heap R7]; rfl
                have r3 : w7.cell? ⟨wr.heap.size, 3, none⟩ = some (.int .i64 r.add) := by rw [Lib.cell_of_heap R7]; rfl
                obtain ⟨i0, i1, i2, i3, i4, i5, i6, i7, i8, i9, i10, i11, i12, i13, i14⟩ := img_cells F7
                have l0 := fun x : Later w7 => x.cell i0
                have l1 := fun x : Later w7 => x.cell i1
                have l2 := fun x : Later w7 => x.cell i2
                have l3 := fun x : Later w7 => x.cell i3
                have l4 := fun x : Later w7 => x.cell i4
                have l5 := fun x : Later w7 => x.cell i5
                have l6 := fun x : Later w7 => x.cell i6
                have l7 := fun x : Later w7 => x.cell i7
                have l8 := fun x : Later w7 => x.cell i8
                have l9 := fun x : Later w7 => x.cell i9
                have l10 := fun x : Later w7 => x.cell i10
                have l11 := fun x : Later w7 => x.cell i11
                have l12 := fun x : Later w7 => x.cell i12
                have l13 := fun x : Later w7 => x.cell i13
                have l14 := fun x : Later w7 => x.cell i14
                have n0 := fun x : Later w7 => x.cell t0
                have m0 := fun x : Later w7 => x.cell r0
                have m1 := fun x : Later w7 => x.cell r1
                have m2 := fun x : Later w7 => x.cell r2
                have m3 := fun x : Later w7 => x.cell r3
                clear i0 i1 i2 i3 i4 i5 i6 i7 i8 i9 i10 i11 i12 i13 i14 t0 r0 r1 r2 r3 g0 g1 g2 g3 R7 F7 S7
                by_cases hm1 : r.at_ < s.at_ + 8
                case neg =>
                  have Hmf : Hid (meetB im s r = false) := Lib.hid (by rw [Hm.out, decide_eq_false (p := r.at_ < s.at_ + 8) hm1]; rfl)
                  have hd1 : decide (r.at_ < s.at_ + 8) = false := by rw [decide_eq_false_iff_not]; omega
                  refine wp_region_later (by kernel_rfl) (by kernel_rfl) ?_
                  repeat (go_big_quiet_step (fail))
                  refine wpQuiet_nil ?_
                  rintro _ ⟨⟨wq, hq⟩, rfl⟩
                  try simp only at hq
                  have Hq := Lib.hid hq
                  clear hq l0 l1 l2 l3 l4 l5 l6 l7 l8 l9 l10 l11 l12 l13 l14 n0 m0 m1 m2 m3
                  go_wp2
                  go_roundw
                  case rel => exact ⟨q + 1, by go_num, by omega, by rw [Hsq.out, Hall.out, Hmf.out]; rfl, B7.out.trans (Hq.out.mono (by omega))⟩
                  case measure => simp [intOf]; omega
                have hd1 : decide (r.at_ < s.at_ + 8) = true := by rw [decide_eq_true_eq]; omega
                by_cases hm2 : s.at_ < r.at_ + wd
                case pos =>
                  have Hn : Hid (slotsB im = false) := Lib.hid (by rw [HD.out, Hse.out, Hdc.out, slotsFrom_bad (Hbad.out (by rw [Hm.out, decide_eq_true (p := r.at_ < s.at_ + 8) hm1, decide_eq_true (p := s.at_ < r.at_ + wd) hm2]; rfl))]; simp)
                  have hd2 : decide (s.at_ < r.at_ + wd) = true := by rw [decide_eq_true_eq]; omega
                  refine wp_region_later (by kernel_rfl) (by kernel_rfl) ?_
                  repeat (go_big_quiet_step (first | (go_at_call 68; refine Later.call _ (HWr.out _ ?_); exact (B5.out.trans (B7.out.mono (by omega))).trans ((Later.h _).mono (by omega)))))
                  refine wpQuiet_nil ?_
                  rintro _ ⟨⟨wq, hq⟩, rfl⟩
                  try simp only at hq
                  have Hq := Lib.hid hq
                  clear hq l0 l1 l2 l3 l4 l5 l6 l7 l8 l9 l10 l11 l12 l13 l14 n0 m0 m1 m2 m3
                  go_wp2
                  go_ret
                  exact ⟨by rw [Hn.out]; rfl, (B5.out.trans (B7.out.mono (by omega))).trans (Hq.out.mono (by omega))⟩
                have Hmf : Hid (meetB im s r = false) := Lib.hid (by rw [Hm.out, decide_eq_false (p := s.at_ < r.at_ + wd) hm2]; simp)
                have hd2 : decide (s.at_ < r.at_ + wd) = false := by rw [decide_eq_false_iff_not]; omega
                refine wp_region_later (by kernel_rfl) (by kernel_rfl) ?_
                repeat (go_big_quiet_step (first | (go_at_call 68; refine Later.call _ (HWr.out _ ?_); exact (B5.out.trans (B7.out.mono (by omega))).trans ((Later.h _).mono (by omega)))))
                refine wpQuiet_nil ?_
                rintro _ ⟨⟨wq, hq⟩, rfl⟩
                try simp only at hq
                have Hq := Lib.hid hq
                clear hq l0 l1 l2 l3 l4 l5 l6 l7 l8 l9 l10 l11 l12 l13 l14 n0 m0 m1 m2 m3
                go_wp2
                go_roundw
                case rel => exact ⟨q + 1, by go_num, by omega, by rw [Hsq.out, Hall.out, Hmf.out]; rfl, B7.out.trans (Hq.out.mono (by omega))⟩
                case measure => simp [intOf]; omega
              · have Hall2 : Hid ((im.relocs.all fun r => !meetB im s r) = true) := Lib.hid (by have := Hall.out; rwa [List.take_of_length_le (by omega)] at this)
                have hok := slotB_ok Hsy.out hk1 Hh1.out Hh2.out Hall2.out
                have Hnx : Hid (slotsFrom im 0 im.slots = slotsFrom im (s.at_ + 8) (im.slots.drop (k + 1))) := Lib.hid (by rw [Hse.out, Hdc.out, slotsFrom_ok h1 hok])
                have t0 : wr.cell? ⟨zs, 0, none⟩ = some (.int .i64 s.at_) := by rw [Lib.cell_of_heap S6]; rfl
                have HF6 := Lib.hid F6
                clear hok hbi F6 S6
                go_wp2
                go_roundw
                case rel => exact ⟨k + 1, s.at_ + 8, by go_num, by first | rfl | go_num, by omega, by omega, by omega, Hnx.out, B5.out.trans (Hbi.out.mono (by omega)), HF6.out, by omega⟩
                case measure => simp [intOf]; omega
    · obtain ⟨i0, i1, i2, i3, i4, i5, i6, i7, i8, i9, i10, i11, i12, i13, i14⟩ := img_cells hF
      have hd : Hid (slotsB im = decide (im.slots.length ≤ 128)) := Lib.hid (by rw [HD.out, Hse.out, List.drop_eq_nil_of_le (by omega)]; simp [slotsFrom])
      clear hbel hF i0 i1 i2 i3 i4 i5 i6 i7 i8 i9 i11 i12 i13 i14
      go_wp2
      go_ret
      exact ⟨ret_bool' (by rw [hd.out, Bool.eq_iff_iff]; simp; omega), Hbel.out⟩

end Go.Proofs.Ytbliedldlimpgaa
