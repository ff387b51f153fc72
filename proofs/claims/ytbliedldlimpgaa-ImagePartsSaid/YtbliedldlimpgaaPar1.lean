/- ImageParts, no condition: for every such input the law returns true, and its arguments read behind the call as they did. -/
import Derived.Test.YtbliedldlimpgaaBas7

/- The law ImageParts: what the program's functions come to. -/
namespace Go.Proofs.Ytbliedldlimpgaa
set_option linter.unusedVariables false
set_option linter.unusedSimpArgs false
open Go.RowKit

theorem holdsB_less {l : List SegL} {x n p : Int} (h : holdsB l x n p = true) : holdsB l x n 0 = true := by
  obtain ⟨s, hs, h2⟩ := List.any_eq_true.1 h
  refine List.any_eq_true.2 ⟨s, hs, ?_⟩
  simp only [Bool.and_eq_true] at h2 ⊢
  exact ⟨h2.1, by unfold permB; simp⟩
theorem relocB_holds {im : ImgL} {r : RelL} (h : relocB im r = true) : holdsB im.segs r.at_ (wideL im r) 0 = true := by
  unfold relocB at h
  unfold wideL
  by_cases hk : r.kind = 1
  · rw [if_pos hk] at h
    simp only [Bool.and_eq_true] at h
    have h2 : ¬ r.kind = 2 := by omega
    cases symAt im r.sym with
    | none => exact h.2
    | some s => dsimp only; rw [if_neg h2]; exact h.2
  · rw [if_neg hk] at h
    cases hs : symAt im r.sym with
    | none => rw [hs] at h; cases h
    | some s =>
      rw [hs] at h
      dsimp only at h ⊢
      simp only [Bool.and_eq_true] at h
      obtain ⟨_, h⟩ := h
      by_cases k2 : r.kind = 2
      · rw [if_pos k2]
        rw [if_neg (by omega), if_neg (by omega), if_neg (by omega), if_neg (by omega), if_pos k2] at h
        simp only [Bool.and_eq_true] at h
        exact holdsB_less h.2
      · rw [if_neg k2]
        split at h
        · simp only [Bool.and_eq_true] at h; exact h.2
        · split at h
          · simp only [Bool.and_eq_true] at h; exact h.2
          · split at h
            · simp only [Bool.and_eq_true] at h; exact h.2
            · split at h
              · simp only [Bool.and_eq_true] at h; exact h.2
              · first | exact absurd h (by simp) | (split at h <;> first | (exact absurd ‹r.kind = 2› k2) | cases h)
theorem relocsFrom_cons {im : ImgL} {e : Int} {r : RelL} {l : List RelL} (h : relocsFrom im e (r :: l) = true) : e ≤ r.at_ ∧ relocB im r = true ∧ relocsFrom im (r.at_ + wideL im r) l = true := by
  simp only [relocsFrom, Bool.and_eq_true, decide_eq_true_eq] at h
  exact ⟨h.1.1, h.1.2, h.2⟩
/-- a slot that may be: its symbol is a function, its word and its stub lie in segments -/
theorem slotB_out {im : ImgL} {s : SlotL} (h : slotB im s = true) : holdsB im.segs s.at_ 8 0 = true ∧ holdsB im.segs s.stub 8 4 = true ∧ ∃ k x, s.sym = (k : Nat) ∧ k < im.syms.length ∧ im.syms[k]? = some x ∧ x.kind = 1 := by
  rw [slotB_parts] at h
  simp only [Bool.and_eq_true] at h
  obtain ⟨⟨⟨h1, h2⟩, h3⟩, -⟩ := h
  refine ⟨h2, h3, ?_⟩
  cases hs : symAt im s.sym with
  | none => rw [hs] at h1; cases h1
  | some x =>
    rw [hs] at h1
    have hr := symAt_range hs
    unfold symAt at hs
    rw [if_neg (by omega)] at hs
    exact ⟨s.sym.toNat, x, by omega, by omega, hs, by simpa using h1⟩
theorem segs_some {l : List SegL} (h : segsB l = true) : 1 ≤ l.length := by
  simp only [segsB, Bool.and_eq_true, decide_eq_true_eq] at h; omega

set_option maxHeartbeats 32000000 in
set_option maxRecDepth 100000 in
theorem parts_of (HDec : DecSays) (w : World) (v : ImgV) (im : ImgL) (hm : ImgM (· < w.heap.size) w v im) :
    Calls Try.prog 8 #[.agg (imgCells v im)] w fun e w' => e = .returned (.bool true) ∧ Below w.heap.size w w' := by
  have HAw := Lib.hid (awake_says HDec)
  have HMay : Hid (∀ w', Below w.heap.size w w' → Calls Try.prog 10 #[.agg (imgCells v im)] w' fun e w'' => e = .returned (.int .i64 (mayL im)) ∧ Below w'.heap.size w' w'') := Lib.hid (fun w' hb => imay_any w' v im (hm.later hb))
  have HJ : Hid (segsB im.segs = true → ∀ (w' : World) (x n p : Int), Below w.heap.size w w' → (-9223372036854775808 ≤ x ∧ x ≤ 9223372036854775807) → (0 ≤ n ∧ n ≤ 9223372036854775807) → p = 0 ∨ p = 2 ∨ p = 4 →
    Calls Try.prog 17 #[.agg (imgCells v im), .int .i64 x, .int .i64 n, .int .i64 p] w' fun e w'' => e = .returned (.bool (holdsB im.segs x n p)) ∧ Below w'.heap.size w' w'') := Lib.hid (fun hg w' x n p hb hx hn hp => jstands_any w' v im x n p (hm.later hb).segs (segOk_of hg) hx hn hp)
  have HW : Hid (∀ (w' : World) (r : RelL), Below w.heap.size w w' →
    Calls Try.prog 18 #[.agg (imgCells v im), .agg #[.int .i64 r.at_, .int .i64 r.kind, .int .i64 r.sym, .int .i64 r.add]] w' fun e w'' => e = .returned (.int .i64 (wideL im r)) ∧ Below w'.heap.size w' w'') := Lib.hid (fun w' r hb => jwide_any w' v im r (hm.later hb).syms)
  obtain ⟨ra, rb, roff, rcap, hrv, hrm, hrc, hrat⟩ := hm.relocs.at
  obtain ⟨ta, tb, toff, tcap, htv, htm, htc, htat⟩ := hm.slots.at
  obtain ⟨ya, yb, yoff, ycap, hyv, hym, hyc, hyat⟩ := hm.syms.at
  obtain ⟨ga, gcap, hgv⟩ := hm.segs.form
  have hgm := hm.segs.max
  obtain ⟨vsegs, vneeded, vrunPath, vsyms, vbuckets, vwords, vrelocs, vslots, vinit, vfini, vtls⟩ := v
  simp only at hrv htv hyv hgv
  subst hrv htv hyv hgv
  unfold imgCells at *
  have Hrat := Lib.hid hrat
  have Htat := Lib.hid htat
  have Hyat := Lib.hid hyat
  have Hrr := Lib.hid hm.relocsR
  have Hto := Lib.hid hm.slotsR
  clear hm hrat htat hyat
  generalize hI : (Array.mk [.string ⟨im.name.toArray⟩, .int .i64 im.flags, .slice ga im.segs.length gcap, vneeded, vrunPath, .slice ya im.syms.length ycap, vbuckets, vwords, .int .i64 im.shift, .slice ra im.relocs.length rcap, .slice ta im.slots.length tcap, vinit, vfini, vtls, .int .i64 im.tlsSize] : Array Value) = I at HMay HJ HW
  have F0 := Lib.hid (heap_alloc_new w (.cells I 38 (0, 0)))
  have B0 := Lib.hid ((Below.refl w.heap.size w).alloc (Nat.le_refl _) (.cells I 38 (0, 0)))
  have hz0 : w.heap.size < (w.alloc (.cells I 38 (0, 0))).heap.size := by simp
  subst hI
  go_enter Try.func8, Try.ntmps8
  go_upto_region 1 with fail
  generalize w.alloc (.cells #[.string ⟨im.name.toArray⟩, .int .i64 im.flags, .slice ga im.segs.length gcap, vneeded, vrunPath, .slice ya im.syms.length ycap, vbuckets, vwords, .int .i64 im.shift, .slice ra im.relocs.length rcap, .slice ta im.slots.length tcap, vinit, vfini, vtls, .int .i64 im.tlsSize] 38 (0, 0)) = w1 at *
  go_wp2_with fail
  refine (HAw.out _).mono ?_
  rintro e w2 ⟨rfl, hb2⟩
  have hz2 := hb2.size
  have F2 := Lib.hid ((hb2.block w.heap.size hz0).trans F0.out)
  have B2 := Lib.hid (B0.out.trans (hb2.mono (by omega)))
  clear hb2 F0 B0 HAw
  obtain ⟨mm, hmm⟩ : ∃ mm, mayL im = mm := ⟨_, rfl⟩
  rw [hmm] at HMay
  have Hmm := Lib.hid hmm
  clear hmm
  obtain ⟨i0, i1, i2, i3, i4, i5, i6, i7, i8, i9, i10, i11, i12, i13, i14⟩ := img_cells F2.out
  go_wp2_with fail
  refine (HMay.out _ B2.out).mono ?_
  rintro e w3 ⟨rfl, hb3⟩
  have hz3 := hb3.size
  have F3 := Lib.hid ((hb3.block w.heap.size (by omega)).trans F2.out)
  have B3 := Lib.hid (B2.out.trans (hb3.mono (by omega)))
  clear hb3 F2 B2 HMay i0 i1 i2 i3 i4 i5 i6 i7 i8 i9 i10 i11 i12 i13 i14
  by_cases h0 : mm = 0
  case neg =>
    have hd1 : (mm != 0) = true := by simpa using h0
    clear Hmm Hrat Htat Hyat
    go_wp2
    go_ret
    exact ⟨rfl, B3.out⟩
  subst h0
  obtain ⟨hh, hg, ht, hs, htb, hr, hsl, hi, hf⟩ := may_parts Hmm.out
  have HJ := Lib.hid (HJ.out hg)
  have hsl512 := (syms_sizes hg ht hs).2
  have Hsz := Lib.hid (syms_sizes hg ht hs).1
  have Hgood : Hid (∀ r, relocB im r = true → (0 ≤ r.at_ ∧ r.at_ + wideL im r ≤ 65536)) := Lib.hid (fun r hr => (reloc_good hg hsl512 hr).1)
  have Hseg := segs_some hg
  have Hr0 : Hid (relocsFrom im 0 im.relocs = true) := Lib.hid (by simp only [relocsB, Bool.and_eq_true] at hr; exact hr.2)
  have Hs0 : Hid (∀ s ∈ im.slots, slotB im s = true) := Lib.hid (by simp only [slotsB, Bool.and_eq_true] at hsl; exact slotsFrom_each _ _ _ hsl.2)
  clear hh hg ht hs htb hr hsl hi hf Hmm
  go_wp2_with fail
  go_loopw [4, 5] (fun e i wr => ∃ (k : Nat) (x : Int), i = .int .i64 k ∧ e = .int .i64 x ∧ 0 ≤ x ∧ x ≤ 65536 ∧ k ≤ im.relocs.length ∧ relocsFrom im x (im.relocs.drop k) = true ∧ Below w.heap.size w wr ∧
    wr.heap[w.heap.size]? = some (.cells #[.string ⟨im.name.toArray⟩, .int .i64 im.flags, .slice ga im.segs.length gcap, vneeded, vrunPath, .slice ya im.syms.length ycap, vbuckets, vwords, .int .i64 im.shift, .slice ra im.relocs.length rcap, .slice ta im.slots.length tcap, vinit, vfini, vtls, .int .i64 im.tlsSize] 38 (0, 0)) ∧ w.heap.size < wr.heap.size) (fun _ i _ => im.relocs.length - (intOf i).toNat)
  case atStart => exact ⟨0, 0, rfl, rfl, by decide, by decide, Nat.zero_le _, Hr0.out, B3.out, F3.out, by omega⟩
  case round =>
    clear F3 B3
    obtain ⟨k, x, rfl, rfl, hx0, hx1, hk, hse, hbel, hF, hzq⟩ := hrel
    have Hbel := Lib.hid hbel
    have HF := Lib.hid hF
    have hBr := hbel.size
    by_cases hlt : k < im.relocs.length
    · obtain rfl := Hrat.out.addr (by omega)
      obtain ⟨r, hx⟩ : ∃ r, im.relocs[k]? = some r := ⟨_, List.getElem?_eq_getElem hlt⟩
      obtain ⟨g0, g1, g2, g3⟩ := (Hrat.out.below hbel).rel4 k r hx
      rw [drop_cons im.relocs k r hx] at hse
      obtain ⟨h1, h2, h3⟩ := relocsFrom_cons hse
      have Hh := Lib.hid (relocB_holds h2)
      have hgd := Hgood.out r h2
      have Hnx := Lib.hid h3
      have hw0 : 0 ≤ wideL im r := by
        unfold wideL
        split
        · rename_i s hs
          have := (Hsz.out s (symAt_range hs).2.2).1
          split <;> omega
        · omega
      have hsb := World.block_lt_of_cell? _ _ g0
      have HFr := Lib.hid (heap_alloc_new wr (.cells (relArr r) 57 (0, 0)))
      have HFi := Lib.hid ((heap_alloc_old wr (.cells (relArr r) 57 (0, 0)) hzq).trans hF)
      have HBr := Lib.hid (Hbel.out.alloc hBr (.cells (relArr r) 57 (0, 0)))
      unfold relArr at *
      obtain ⟨i0, i1, i2, i3, i4, i5, i6, i7, i8, i9, i10, i11, i12, i13, i14⟩ := img_cells HF.out
      clear hx hbel hF HF Hbel hse h2 h3
      go_upto_region 9 with fail
      clear i0 i1 i2 i3 i4 i5 i6 i7 i8 i9 i10 i11 i12 i13 i14
      have hz1 : (wr.alloc (.cells #[.int .i64 r.at_, .int .i64 r.kind, .int .i64 r.sym, .int .i64 r.add] 57 (0, 0))).heap.size = wr.heap.size + 1 := by simp
      generalize wr.alloc (.cells #[.int .i64 r.at_, .int .i64 r.kind, .int .i64 r.sym, .int .i64 r.add] 57 (0, 0)) = w1 at *
      have r0 : w1.cell? ⟨wr.heap.size, 0, none⟩ = some (.int .i64 r.at_) := by rw [Lib.cell_of_heap HFr.out]; rfl
      have r1 : w1.cell? ⟨wr.heap.size, 1, none⟩ = some (.int .i64 r.kind) := by rw [Lib.cell_of_heap HFr.out]; rfl
      have r2 : w1.cell? ⟨wr.heap.size, 2, none⟩ = some (.int .i64 r.sym) := by rw [Lib.cell_of_heap HFr.out]; rfl
      have r3 : w1.cell? ⟨wr.heap.size, 3, none⟩ = some (.int .i64 r.add) := by rw [Lib.cell_of_heap HFr.out]; rfl
      obtain ⟨i0, i1, i2, i3, i4, i5, i6, i7, i8, i9, i10, i11, i12, i13, i14⟩ := img_cells HFi.out
      have l0 := fun x : Later w1 => x.cell i0
      have l1 := fun x : Later w1 => x.cell i1
      have l2 := fun x : Later w1 => x.cell i2
      have l3 := fun x : Later w1 => x.cell i3
      have l4 := fun x : Later w1 => x.cell i4
      have l5 := fun x : Later w1 => x.cell i5
      have l6 := fun x : Later w1 => x.cell i6
      have l7 := fun x : Later w1 => x.cell i7
      have l8 := fun x : Later w1 => x.cell i8
      have l9 := fun x : Later w1 => x.cell i9
      have l10 := fun x : Later w1 => x.cell i10
      have l11 := fun x : Later w1 => x.cell i11
      have l12 := fun x : Later w1 => x.cell i12
      have l13 := fun x : Later w1 => x.cell i13
      have l14 := fun x : Later w1 => x.cell i14
      have m0 := fun x : Later w1 => x.cell r0
      have m1 := fun x : Later w1 => x.cell r1
      have m2 := fun x : Later w1 => x.cell r2
      have m3 := fun x : Later w1 => x.cell r3
      clear g0 g1 g2 g3 i0 i1 i2 i3 i4 i5 i6 i7 i8 i9 i10 i11 i12 i13 i14 r0 r1 r2 r3
      have hd : decide (r.at_ < x) = false := by rw [decide_eq_false_iff_not]; omega
      obtain ⟨wd, hwd⟩ : ∃ wd, wideL im r = wd := ⟨_, rfl⟩
      have HWr := Lib.hid (fun w' hb => HW.out w' r hb)
      rw [hwd] at HWr hgd hw0 Hnx Hh
      clear hwd
      have HJr := Lib.hid (fun w' hb => HJ.out w' r.at_ wd 0 hb (by omega) (by omega) (Or.inl rfl))
      rw [Hh.out] at HJr
      refine wp_region_later (by kernel_rfl) (by kernel_rfl) ?_
      repeat (go_big_quiet_step (first | (go_at_call 18; refine Later.call _ (HWr.out _ ?_); exact HBr.out.trans ((Later.h _).mono (by omega))) | (go_at_call 17; refine Later.call _ (HJr.out _ ?_); exact HBr.out.trans ((Later.h _).mono (by omega)))))
      refine wpQuiet_nil ?_
      rintro _ ⟨⟨wq, hq⟩, rfl⟩
      try simp only at hq
      rename World => w5
      have hz5 := hq.size
      have F5 := Lib.hid ((hq.block w.heap.size (by omega)).trans HFi.out)
      have R5 := Lib.hid ((hq.block wr.heap.size (by omega)).trans HFr.out)
      have B5 := Lib.hid (HBr.out.trans (hq.mono (by omega)))
      clear hq l0 l1 l2 l3 l4 l5 l6 l7 l8 l9 l10 l11 l12 l13 l14 m0 m1 m2 m3 HFi HFr HBr HJr hd
      go_wp2_with fail
      have r0 : w5.cell? ⟨wr.heap.size, 0, none⟩ = some (.int .i64 r.at_) := by rw [Lib.cell_of_heap R5.out]; rfl
      have r1 : w5.cell? ⟨wr.heap.size, 1, none⟩ = some (.int .i64 r.kind) := by rw [Lib.cell_of_heap R5.out]; rfl
      have r2 : w5.cell? ⟨wr.heap.size, 2, none⟩ = some (.int .i64 r.sym) := by rw [Lib.cell_of_heap R5.out]; rfl
      have r3 : w5.cell? ⟨wr.heap.size, 3, none⟩ = some (.int .i64 r.add) := by rw [Lib.cell_of_heap R5.out]; rfl
      obtain ⟨i0, i1, i2, i3, i4, i5, i6, i7, i8, i9, i10, i11, i12, i13, i14⟩ := img_cells F5.out
      have l0 := fun x : Later w5 => x.cell i0
      have l1 := fun x : Later w5 => x.cell i1
      have l2 := fun x : Later w5 => x.cell i2
      have l3 := fun x : Later w5 => x.cell i3
      have l4 := fun x : Later w5 => x.cell i4
      have l5 := fun x : Later w5 => x.cell i5
      have l6 := fun x : Later w5 => x.cell i6
      have l7 := fun x : Later w5 => x.cell i7
      have l8 := fun x : Later w5 => x.cell i8
      have l9 := fun x : Later w5 => x.cell i9
      have l10 := fun x : Later w5 => x.cell i10
      have l11 := fun x : Later w5 => x.cell i11
      have l12 := fun x : Later w5 => x.cell i12
      have l13 := fun x : Later w5 => x.cell i13
      have l14 := fun x : Later w5 => x.cell i14
      have m0 := fun x : Later w5 => x.cell r0
      have m1 := fun x : Later w5 => x.cell r1
      have m2 := fun x : Later w5 => x.cell r2
      have m3 := fun x : Later w5 => x.cell r3
      clear i0 i1 i2 i3 i4 i5 i6 i7 i8 i9 i10 i11 i12 i13 i14 r0 r1 r2 r3
      refine wp_region_later (by kernel_rfl) (by kernel_rfl) ?_
      repeat (go_big_quiet_step (first | (go_at_call 18; refine Later.call _ (HWr.out _ ?_); exact B5.out.trans ((Later.h _).mono (by omega)))))
      refine wpQuiet_nil ?_
      rintro _ ⟨⟨wq, hq⟩, rfl⟩
      try simp only at hq
      have Hq := Lib.hid hq
      clear hq l0 l1 l2 l3 l4 l5 l6 l7 l8 l9 l10 l11 l12 l13 l14 m0 m1 m2 m3
      go_wp2
      go_roundw
      case rel =>
        have hq := Hq.out
        have := hq.size
        exact ⟨k + 1, r.at_ + wd, by go_num, rfl, by omega, by omega, by omega, Hnx.out, B5.out.trans (hq.mono (by omega)), (hq.block w.heap.size (by omega)).trans F5.out, by omega⟩
      case measure => simp [intOf]; omega
    · clear hse hx0 hx1
      obtain ⟨i0, i1, i2, i3, i4, i5, i6, i7, i8, i9, i10, i11, i12, i13, i14⟩ := img_cells HF.out
      clear hbel hF
      go_wp2_with fail
      clear i0 i1 i2 i3 i4 i5 i6 i7 i8 i9 i10 i11 i12 i13 i14 hlt hk Hrat Hrr Hgood Hr0 HW
      go_loopw [7] (fun i ws => ∃ k : Nat, i = .int .i64 k ∧ k ≤ im.slots.length ∧ Below w.heap.size w ws ∧
        ws.heap[w.heap.size]? = some (.cells #[.string ⟨im.name.toArray⟩, .int .i64 im.flags, .slice ga im.segs.length gcap, vneeded, vrunPath, .slice ya im.syms.length ycap, vbuckets, vwords, .int .i64 im.shift, .slice ra im.relocs.length rcap, .slice ta im.slots.length tcap, vinit, vfini, vtls, .int .i64 im.tlsSize] 38 (0, 0)) ∧ w.heap.size < ws.heap.size) (fun i _ => im.slots.length - (intOf i).toNat)
      case atStart => exact ⟨0, rfl, Nat.zero_le _, Hbel.out, HF.out, by omega⟩
      case round =>
        clear HF Hbel hBr
        obtain ⟨q, rfl, hq, hbel, hF, hzs⟩ := hrel
        have Hbel := Lib.hid hbel
        have hBr := hbel.size
        obtain ⟨i0, i1, i2, i3, i4, i5, i6, i7, i8, i9, i10, i11, i12, i13, i14⟩ := img_cells hF
        by_cases hlt : q < im.slots.length
        · obtain rfl := Htat.out.addr (by omega)
          obtain ⟨s, hx⟩ : ∃ s, im.slots[q]? = some s := ⟨_, List.getElem?_eq_getElem hlt⟩
          obtain ⟨g0, g1, g2⟩ := (Htat.out.below hbel).slot3 q s hx
          have hmem := List.mem_of_getElem? hx
          obtain ⟨p1, p2, j, y, hj, hjl, hjy, hyk⟩ := slotB_out (Hs0.out s hmem)
          have hso := Hto.out s hmem
          rw [hj] at g1
          obtain rfl := Hyat.out.addr (by omega)
          obtain ⟨-, y0, y1, y2, y3, y4, y5, y6, y7, y8⟩ := (Hyat.out.below hbel).sym9 j y hjy
          rw [hyk] at y3
          have hsb := World.block_lt_of_cell? _ _ g0
          have HFs := Lib.hid (heap_alloc_new wr (.cells #[.int .i64 s.at_, .int .i64 j, .int .i64 s.stub] 69 (0, 0)))
          have HFi := Lib.hid ((heap_alloc_old wr (.cells #[.int .i64 s.at_, .int .i64 j, .int .i64 s.stub] 69 (0, 0)) hzs).trans hF)
          have HBs := Lib.hid (Hbel.out.alloc hBr (.cells #[.int .i64 s.at_, .int .i64 j, .int .i64 s.stub] 69 (0, 0)))
          have HJ1 := Lib.hid (fun w' hb => HJ.out w' s.at_ 8 0 hb hso.2.1 (by decide) (Or.inl rfl))
          have HJ2 := Lib.hid (fun w' hb => HJ.out w' s.stub 8 4 hb hso.2.2 (by decide) (Or.inr (Or.inr rfl)))
          rw [p1] at HJ1
          rw [p2] at HJ2
          have Y3 := Lib.hid y3
          have hyb := World.block_lt_of_cell? _ _ y3
          clear hx hbel hF hmem hso p1 p2 y0 y1 y2 y3 y4 y5 y6 y7 y8 hjy hyk hj
          go_upto_region 16 with fail
          clear g0 g1 g2 i0 i1 i2 i3 i4 i5 i6 i7 i8 i9 i10 i11 i12 i13 i14
          have hz1 : (wr.alloc (.cells #[.int .i64 s.at_, .int .i64 j, .int .i64 s.stub] 69 (0, 0))).heap.size = wr.heap.size + 1 := by simp
          have Y4 : Hid ((wr.alloc (.cells #[.int .i64 s.at_, .int .i64 j, .int .i64 s.stub] 69 (0, 0))).cell? _ = _) := Lib.hid ((World.cell?_alloc_lt _ _ _ hyb).trans Y3.out)
          generalize wr.alloc (.cells #[.int .i64 s.at_, .int .i64 j, .int .i64 s.stub] 69 (0, 0)) = w1 at *
          generalize wr.heap.size = zs at *
          obtain ⟨i0, i1, i2, i3, i4, i5, i6, i7, i8, i9, i10, i11, i12, i13, i14⟩ := img_cells HFi.out
          have t0 : w1.cell? ⟨zs, 0, none⟩ = some (.int .i64 s.at_) := by rw [Lib.cell_of_heap HFs.out]; rfl
          go_wp2_with fail
          refine (HJ1.out _ HBs.out).mono ?_
          rintro e w4 ⟨rfl, hb4⟩
          have hz4 := hb4.size
          have F4 := Lib.hid ((hb4.block w.heap.size (by omega)).trans HFi.out)
          have S4 := Lib.hid ((hb4.block zs (by omega)).trans HFs.out)
          have B4 := Lib.hid (HBs.out.trans (hb4.mono (by omega)))
          have Y5 := Lib.hid ((hb4.cell (World.block_lt_of_cell? _ _ Y4.out)).trans Y4.out)
          clear hb4 HFi HFs HBs Y3 Y4 t0 i0 i1 i2 i3 i4 i5 i6 i7 i8 i9 i10 i11 i12 i13 i14 HJ1
          obtain ⟨i0, i1, i2, i3, i4, i5, i6, i7, i8, i9, i10, i11, i12, i13, i14⟩ := img_cells F4.out
          have t2 : w4.cell? ⟨zs, 2, none⟩ = some (.int .i64 s.stub) := by rw [Lib.cell_of_heap S4.out]; rfl
          go_wp2_with fail
          refine (HJ2.out _ B4.out).mono ?_
          rintro e w5 ⟨rfl, hb5⟩
          have hz5 := hb5.size
          have F6 := Lib.hid ((hb5.block w.heap.size (by omega)).trans F4.out)
          have S6 := Lib.hid ((hb5.block zs (by omega)).trans S4.out)
          have B6 := Lib.hid (B4.out.trans (hb5.mono (by omega)))
          have y6 := (hb5.cell (World.block_lt_of_cell? _ _ Y5.out)).trans Y5.out
          clear hb5 F4 S4 B4 Y5 t2 i0 i1 i2 i3 i4 i5 i6 i7 i8 i9 i10 i11 i12 i13 i14 HJ2
          obtain ⟨i0, i1, i2, i3, i4, i5, i6, i7, i8, i9, i10, i11, i12, i13, i14⟩ := img_cells F6.out
          have t1 : w5.cell? ⟨zs, 1, none⟩ = some (.int .i64 j) := by rw [Lib.cell_of_heap S6.out]; rfl
          have hd1 : decide ((j : Int) < 0) = false := by rw [decide_eq_false_iff_not]; omega
          have hd2 : decide ((im.syms.length : Int) ≤ (j : Int)) = false := by rw [decide_eq_false_iff_not]; omega
          go_wp2
          go_roundw
          case rel => exact ⟨q + 1, by go_num, by omega, B6.out, F6.out, by omega⟩
          case measure => simp [intOf]; omega
        · clear hbel hF
          go_wp2
          go_ret
          exact ⟨ret_bool' (by simp; omega), Hbel.out⟩

end Go.Proofs.Ytbliedldlimpgaa

/- ImageParts, no condition: for every such input the law returns true, and its arguments read behind the call as they did. -/
namespace Go.Proofs.Ytbliedldlimpgaa.imagePartsLaw
set_option linter.unusedVariables false
set_option linter.unusedSimpArgs false
open Go.ChangeShapes Go.WideShapes Go.ChangeAt Go.RowKit

set_option maxRecDepth 100000 in
theorem contract (HDec : DecSays) (H : Type) (enc : TypeId × Value → H) (W : World) (base : Nat) (args : Array Value) (ds gs : List (DataW H)) (before : List MemPlace)
    (hval : ∀ (j : Nat) t v, Try.f8.params[j]? = some t → args[j]? = some v → Value.okWide Try.prog W .any base t v)
    (hW : DataW.Whole enc Try.prog Try.f8.params.toList Rows.imagePartsSpec.vars false W args.toList ds gs before) :
    Calls Try.prog 8 args W fun e W' => ∃ v, e = .returned v ∧ Rows.imagePartsSpec.post enc Try.prog Try.f8 false true false false W args v W' := by
  have hW' := hW
  obtain ⟨p, q, hA0, hV, rfl, hfz, hnd⟩ := hW
  have hA : DataW.TrodAll enc Try.prog W 0 (fun _ => true) true Try.f8.params.toList args.toList ds p := hA0
  rw [Try.params8] at hA hval
  obtain ⟨v0, d0, rfl, rfl, h0⟩ := trodAll_one hA
  obtain ⟨rfl, rfl⟩ := trodVars_none hV
  obtain ⟨vv, im, rfl, hm, gbk⟩ := open_image (hval 0 38 v0 rfl rfl) h0
  clear hA0
  simp only [List.append_nil, List.nil_append] at hW' hfz
  have hlt0 : ∀ x ∈ p, x.block < W.heap.size := fun x hx => hW'.lt x (by simp [hx])
  refine (parts_of HDec W vv im hm).mono fun e W' ⟨he, hbl⟩ => ?_
  subst he
  exact ⟨_, rfl, ⟨_, _, _, [], p, [], hW', trodAll_mk1 (shut_bool Try.underlying4 _),
    trodAll_mk1 (Below.trod laidOut (by kernel_rfl) (of_decide_eq_true (by kernel_rfl)) h0 hbl hlt0), rfl, hbl.frame _, fun h => by cases h⟩⟩

set_option maxRecDepth 100000 in
theorem lifted (HDec : DecSays) (os : Os) (started : os.Started) (H : Type) (enc : TypeId × Value → H) :
    ReturnsInHanded {} Try.checked os 8 .any (Rows.imagePartsSpec.pre6 enc Try.prog Try.f8 Rows.imagePartsRow.domain false) (Rows.imagePartsSpec.post enc Try.prog Try.f8 false true false false) := by
  refine returnsInHanded_of_change (C := Try.checked) own started (by kernel_rfl) Try.func8
    (ChangeSpec.witness6 (enc := enc) (C := Try.checked) false ⟨#[], #[.agg (imgCells noneV noneImg)], []⟩ 12 (by kernel_rfl) (by kernel_rfl) (by kernel_rfl) (by kernel_rfl)) ?_
  intro W base args ds gs before hval hW _ _
  exact contract HDec H enc W base args ds gs before hval hW

theorem over (HDec : DecSays) : Rows.ImagePartsSaid :=
  OpenClaim.holds_of_wide 8 Try.f8 rfl rfl rfl rfl rfl rfl rfl ⟨rfl, rfl, rfl, rfl, rfl⟩ rfl rfl rfl rfl rfl (by kernel_rfl) Try.func8 (by kernel_rfl)
    (of_decide_eq_true (by kernel_rfl)) (by unfold Func.isWrapper; first | (rw [if_pos (by decide +kernel)]; kernel_rfl) | (rw [if_neg (by decide +kernel)]; exact ⟨rfl, rfl⟩))
    (fun os started H enc _ => lifted HDec os started H enc)

end Go.Proofs.Ytbliedldlimpgaa.imagePartsLaw

namespace Go.Proofs.Ytbliedldlimpgaa.imagePartsLaw
set_option linter.unusedVariables false
set_option linter.unusedSimpArgs false

theorem proved : Rows.ImagePartsSaid := over dec_says

end Go.Proofs.Ytbliedldlimpgaa.imagePartsLaw
