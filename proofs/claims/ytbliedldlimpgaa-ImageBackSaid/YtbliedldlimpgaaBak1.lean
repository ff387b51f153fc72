/- ImageBack, no condition: for every such input the law returns true, and its arguments read behind the call as they did. -/
import Derived.Test.YtbliedldlimpgaaBas31
import Derived.Test.YtbliedldlimpgaaBas5
import Derived.Test.YtbliedldlimpgaaBas32
import Derived.Laws.StructEq

/- The law ImageBack: what the program's functions come to. -/
namespace Go.Proofs.Ytbliedldlimpgaa
set_option linter.unusedVariables false
set_option linter.unusedSimpArgs false
open Go.RowKit

theorem step_setRow0 (w : World) (g : Nat) (cs : Array Value) : Step (fun x => x ≠ g) w (w.setRow g cs) := ⟨rfl, rfl, rfl, by simp, fun b hb => setRow_other _ _ _ _ hb⟩
set_option maxHeartbeats 32000000 in
set_option maxRecDepth 100000 in
theorem back_of (HDec : DecSays) (w : World) (v : ImgV) (im : ImgL) (bv : Value) (bs : List UInt8) (hm : ImgM (· < w.heap.size) w v im) (hbv : LB kByte (· < w.heap.size) w bv bs) (hl : bs.length ≤ 140737488355328) :
    Calls Try.prog 5 #[.agg (imgCells v im), bv] w fun e w' => e = .returned (.bool true) ∧ Below w.heap.size w w' := by
  have HD := Lib.hid HDec
  have HAw := Lib.hid (awake_says HDec)
  obtain ⟨ba, bc, rfl⟩ := hbv.form
  have HEnc : Hid (∀ w', Below w.heap.size w w' → Calls Try.prog 12 #[.agg (imgCells v im)] w' fun e w'' => ∃ r, e = .returned (.tuple #[r, .int .i64 (mayL im)]) ∧ Below w'.heap.size w' w'' ∧ (mayL im ≠ 0 → r = .slice none 0 0) ∧ (mayL im = 0 → OwnK 5 kByte w'.heap.size (fun _ => False) w'' r (formL im))) := Lib.hid (fun w' hb => iencode_any w' v im (hm.later hb))
  have HWr := Lib.hid hm.wordsR
  have HTl := Lib.hid hm.tls
  have V0 := Lib.hid hbv
  obtain ⟨ra, rb, roff, rcap, hrv, hrm, hrc, hrat⟩ := hm.relocs.at
  obtain ⟨ta, tcap, htv⟩ := hm.slots.form
  have htm := hm.slots.max
  obtain ⟨ya, yb, yoff, ycap, hyv, hym, hyc, hyat⟩ := hm.syms.at
  obtain ⟨la, lcap, hlv⟩ := hm.tls.form
  have hlm := hm.tls.max
  obtain ⟨vsegs, vneeded, vrunPath, vsyms, vbuckets, vwords, vrelocs, vslots, vinit, vfini, vtls⟩ := v
  simp only at hrv htv hyv hlv
  subst hrv htv hyv hlv
  have Hrat := Lib.hid hrat
  have Hyat := Lib.hid hyat
  have HL := Lib.hid hl
  clear hm hbv HDec hrat hyat hl
  obtain ⟨mm, hmm⟩ : ∃ mm, mayL im = mm := ⟨_, rfl⟩
  rw [hmm] at HEnc
  have Hmm := Lib.hid hmm
  clear hmm
  unfold imgCells at HEnc ⊢
  generalize hI : (Array.mk [.string ⟨im.name.toArray⟩, .int .i64 im.flags, vsegs, vneeded, vrunPath, .slice ya im.syms.length ycap, vbuckets, vwords, .int .i64 im.shift, .slice ra im.relocs.length rcap, .slice ta im.slots.length tcap, vinit, vfini, .slice la im.tls.length lcap, .int .i64 im.tlsSize] : Array Value) = I at HEnc
  have F0 := Lib.hid (heap_alloc_new w (.cells I 38 (0, 0)))
  have B0 := Lib.hid ((Below.refl w.heap.size w).alloc (Nat.le_refl _) (.cells I 38 (0, 0)))
  have hz0 : w.heap.size < (w.alloc (.cells I 38 (0, 0))).heap.size := by simp
  subst hI
  go_enter Try.func5, Try.ntmps5
  go_upto_region 1 with fail
  generalize w.alloc (.cells #[.string ⟨im.name.toArray⟩, .int .i64 im.flags, vsegs, vneeded, vrunPath, .slice ya im.syms.length ycap, vbuckets, vwords, .int .i64 im.shift, .slice ra im.relocs.length rcap, .slice ta im.slots.length tcap, vinit, vfini, .slice la im.tls.length lcap, .int .i64 im.tlsSize] 38 (0, 0)) = w1 at *
  go_wp2_with fail
  refine (HAw.out _).mono ?_
  rintro e w2 ⟨rfl, hb2⟩
  have hz2 := hb2.size
  have F2 := Lib.hid ((hb2.block w.heap.size hz0).trans F0.out)
  have B2 := Lib.hid (B0.out.trans (hb2.mono (by omega)))
  clear hb2 F0 B0 HAw
  obtain ⟨i0, i1, i2, i3, i4, i5, i6, i7, i8, i9, i10, i11, i12, i13, i14⟩ := img_cells F2.out
  go_wp2_with fail
  refine (HEnc.out w2 B2.out).mono ?_
  rintro e w3 ⟨r, rfl, hb3, hr1, hr2⟩
  have hz3 := hb3.size
  have F3 := Lib.hid ((hb3.block w.heap.size (by omega)).trans F2.out)
  have B3 := Lib.hid (B2.out.trans (hb3.mono (by omega)))
  clear hb3 F2 B2 HEnc i0 i1 i2 i3 i4 i5 i6 i7 i8 i9 i10 i11 i12 i13 i14
  by_cases h0 : mm = 0
  case neg =>
    have hd0 : (mm == 0) = false := by simpa using h0
    have BT := B3
    obtain rfl := hr1 h0
    clear hr1 hr2 Hmm HWr B3 F3 Hrat Hyat
    go_upto_region 18 with fail
    have VT := Lib.hid (V0.out.keeps (fun b hb => BT.out.block b hb))
    have hzT := BT.out.size
    have HDT := Lib.hid (HD.out w3 _ bs (VT.out.imp (fun b hb => by have hb : b < w.heap.size := hb; show b < _; omega)) HL.out (by omega))
    go_wp2_with fail
    refine HDT.out.mono ?_
    rintro e w8 ⟨v8, im8, code8, rfl, hb8, hm8, -, hd8, he8⟩
    have hz8 := hb8.size
    have V8 := Lib.hid (VT.out.keeps (fun b hb => hb8.block b (by have hb : b < w.heap.size := hb; omega)))
    have B8 := Lib.hid (BT.out.trans (hb8.mono (by omega)))
    have Hd8 := Lib.hid hd8
    have He8 := Lib.hid he8
    have HM8 := Lib.hid hm8
    clear hb8 HDT VT BT hd8 he8
    have HOne8 := Lib.hid hm8.cells
    have hI8 : (imgCells v8 im8).size = 15 := rfl
    have FZ8 := Lib.hid (heap_alloc_new w8 (.cells #[.string ⟨#[]⟩, .int .i64 0, .slice none 0 0, .slice none 0 0, .slice none 0 0, .slice none 0 0, .slice none 0 0, .slice none 0 0, .int .i64 0, .slice none 0 0, .slice none 0 0, .slice none 0 0, .slice none 0 0, .slice none 0 0, .int .i64 0] 38 (0, 0)))
    have BZ8 : Below w8.heap.size w8 ((w8.alloc (.cells #[.string ⟨#[]⟩, .int .i64 0, .slice none 0 0, .slice none 0 0, .slice none 0 0, .slice none 0 0, .slice none 0 0, .slice none 0 0, .int .i64 0, .slice none 0 0, .slice none 0 0, .slice none 0 0, .slice none 0 0, .slice none 0 0, .int .i64 0] 38 (0, 0))).setRow w8.heap.size (imgCells v8 im8)) := ((((Step.refl (· < w8.heap.size) w8).alloc (fun b hb => hb) _).trans ((step_setRow0 _ w8.heap.size (imgCells v8 im8)).imp (fun x hx => by have hx : x < w8.heap.size := hx; show x ≠ _; omega)))).below
    have FR8 := Lib.hid (setRow_heap _ w8.heap.size _ (imgCells v8 im8) _ _ FZ8.out)
    have hzz8 : w8.heap.size < ((w8.alloc (.cells #[.string ⟨#[]⟩, .int .i64 0, .slice none 0 0, .slice none 0 0, .slice none 0 0, .slice none 0 0, .slice none 0 0, .slice none 0 0, .int .i64 0, .slice none 0 0, .slice none 0 0, .slice none 0 0, .slice none 0 0, .slice none 0 0, .int .i64 0] 38 (0, 0))).setRow w8.heap.size (imgCells v8 im8)).heap.size := by simp
    obtain ⟨I8, hIe8⟩ : ∃ c, imgCells v8 im8 = c := ⟨_, rfl⟩
    rw [hIe8] at HOne8 hI8 BZ8 FR8 hzz8 ⊢
    go_upto_region 19 with (refine wpList_store_row rfl 38 (.tmp 14) (.tmp 145) rfl w8.heap.size I8 rfl rfl _ _ FZ8.out (by rw [hI8]; kernel_rfl) (by rw [hI8]; rfl) HOne8.out ?_)
    generalize (w8.alloc (.cells #[.string ⟨#[]⟩, .int .i64 0, .slice none 0 0, .slice none 0 0, .slice none 0 0, .slice none 0 0, .slice none 0 0, .slice none 0 0, .int .i64 0, .slice none 0 0, .slice none 0 0, .slice none 0 0, .slice none 0 0, .slice none 0 0, .int .i64 0] 38 (0, 0))).setRow w8.heap.size I8 = w9 at BZ8 FR8 hzz8 ⊢
    clear FZ8 HOne8
    have V9 := Lib.hid (V8.out.keeps (fun b hb => BZ8.block b (by have hb : b < w.heap.size := hb; omega)))
    have B9 := Lib.hid (B8.out.trans (BZ8.mono (by omega)))
    have HM9 : Hid (ImgM (· < w9.heap.size) w9 v8 im8) := Lib.hid ((HM8.out.keeps (fun b hb => BZ8.block b hb.2)).imp (fun b hb => by have := hb.2; show b < _; omega))
    clear V8 B8 BZ8 HM8 hm8
    by_cases hc : code8 = 0
    case neg =>
      have hd1 : (code8 != 0) = true := by simpa using hc
      clear Hd8 He8 HM9 V9 FR8
      go_wp2
      go_ret
      exact ⟨rfl, B9.out⟩
    obtain ⟨x8, hx1, hx2⟩ := He8.out hc
    obtain ⟨rfl, -⟩ := Hd8.out x8 hx1 hx2
    subst hc
    have hE8 := iencode_any w9 v8 im8 HM9.out
    have hM8 := fun w' (hb : Below w9.heap.size w9 w') => imay_any w' v8 im8 (HM9.out.later hb)
    rw [hIe8, hx2] at hE8
    have HM8 := Lib.hid (fun w' hb => by have h := hM8 w' hb; rw [hIe8, hx2] at h; exact h)
    have HE8 := Lib.hid hE8
    have Hbs := Lib.hid (whole_back hx1).2
    clear hE8 hM8 HM9 Hd8 He8 hx1 hx2
    go_wp2_with (refine wpList_load_row rfl 38 (.tmp 14) rfl w8.heap.size rfl _ _ _ _ FR8.out Try.underlying38 rfl (by rw [hI8]; kernel_rfl) ?_)
    go_wp2_with fail
    refine HE8.out.mono ?_
    rintro e w10 ⟨r8, rfl, hb10, -, hr8⟩
    have hz10 := hb10.size
    have O8 := hr8 (by first | trivial | rfl)
    rw [Hbs.out] at O8
    have FR9 := Lib.hid ((hb10.block w8.heap.size (by omega)).trans FR8.out)
    have V10 := V9.out.keeps (fun b hb => hb10.block b (by have hb : b < w.heap.size := hb; omega))
    have B10 := Lib.hid (B9.out.trans (hb10.mono (by omega)))
    have HMy := Lib.hid (HM8.out w10 hb10)
    have s1 := run_str O8.lb
    have s2 := run_str V10
    clear hb10 hr8 O8 V10 V9 B9 HM8 HE8 FR8 Hbs
    clear hI8
    subst hIe8
    obtain ⟨csegs, cneeded, crunPath, csyms, cbuckets, cwords, crelocs, cslots, cinit, cfini, ctls⟩ := v8
    unfold imgCells at FR9 HMy ⊢
    dsimp only at FR9 HMy ⊢
    obtain ⟨i0, i1, i2, i3, i4, i5, i6, i7, i8, i9, i10, i11, i12, i13, i14⟩ := img_cells FR9.out
    go_wp2_with fail
    refine HMy.out.mono ?_
    rintro e w11 ⟨rfl, hb11⟩
    have B11 := Lib.hid (B10.out.trans (hb11.mono (by omega)))
    clear hb11 s1 s2 i0 i1 i2 i3 i4 i5 i6 i7 i8 i9 i10 i11 i12 i13 i14
    go_wp2
    go_ret
    exact ⟨rfl, B11.out⟩
  have HO := Lib.hid (hr2 h0)
  have Hok := Lib.hid (may_ok (Hmm.out.trans h0) HWr.out)
  have hfl := form_len Hok.out (may_few (Hmm.out.trans h0))
  have Hwh := Lib.hid (whole_form Hok.out)
  have Hm0 := Lib.hid (Hmm.out.trans h0)
  subst h0
  clear hr1 hr2 Hmm Hok
  obtain ⟨fl, hfe⟩ : ∃ fl, formL im = fl := ⟨_, rfl⟩
  have Hfe := Lib.hid hfe
  rw [hfe] at HO hfl Hwh
  clear hfe
  obtain ⟨fa, fc, hrf⟩ := HO.out.form
  subst hrf
  have LF := Lib.hid (HO.out.lb.imp (S' := (· < w3.heap.size)) (fun b hb => hb.1))
  have HD1 := Lib.hid (HD.out w3 _ fl LF.out (by omega) (by omega))
  go_wp2_with fail
  refine HD1.out.mono ?_
  rintro e w4 ⟨v4, im4, code4, rfl, hb4, hm4, -, hd4, -⟩
  obtain ⟨he4, rfl⟩ := hd4 im Hwh.out Hm0.out
  have he4 := he4.symm
  subst he4
  have hz4 := hb4.size
  have F4 := Lib.hid ((hb4.block w.heap.size (by omega)).trans F3.out)
  have LF4 := Lib.hid (LF.out.keeps (fun b hb => hb4.block b hb))
  have B4 := Lib.hid (B3.out.trans (hb4.mono (by omega)))
  have HM4 := Lib.hid hm4
  clear hb4 hd4 HD1 F3 B3 HO LF
  have HOne4 := Lib.hid hm4.cells
  have hI4 : (imgCells v4 im).size = 15 := rfl
  have FZ4 := Lib.hid (heap_alloc_new w4 (.cells #[.string ⟨#[]⟩, .int .i64 0, .slice none 0 0, .slice none 0 0, .slice none 0 0, .slice none 0 0, .slice none 0 0, .slice none 0 0, .int .i64 0, .slice none 0 0, .slice none 0 0, .slice none 0 0, .slice none 0 0, .slice none 0 0, .int .i64 0] 38 (0, 0)))
  have BZ4 : Below w4.heap.size w4 ((w4.alloc (.cells #[.string ⟨#[]⟩, .int .i64 0, .slice none 0 0, .slice none 0 0, .slice none 0 0, .slice none 0 0, .slice none 0 0, .slice none 0 0, .int .i64 0, .slice none 0 0, .slice none 0 0, .slice none 0 0, .slice none 0 0, .slice none 0 0, .int .i64 0] 38 (0, 0))).setRow w4.heap.size (imgCells v4 im)) := ((((Step.refl (· < w4.heap.size) w4).alloc (fun b hb => hb) _).trans ((step_setRow0 _ w4.heap.size (imgCells v4 im)).imp (fun x hx => by have hx : x < w4.heap.size := hx; show x ≠ _; omega)))).below
  have FR4 := Lib.hid (setRow_heap _ w4.heap.size _ (imgCells v4 im) _ _ FZ4.out)
  have hzz4 : w4.heap.size < ((w4.alloc (.cells #[.string ⟨#[]⟩, .int .i64 0, .slice none 0 0, .slice none 0 0, .slice none 0 0, .slice none 0 0, .slice none 0 0, .slice none 0 0, .int .i64 0, .slice none 0 0, .slice none 0 0, .slice none 0 0, .slice none 0 0, .slice none 0 0, .int .i64 0] 38 (0, 0))).setRow w4.heap.size (imgCells v4 im)).heap.size := by simp
  obtain ⟨I4, hIe4⟩ : ∃ c, imgCells v4 im = c := ⟨_, rfl⟩
  rw [hIe4] at HOne4 hI4 BZ4 FR4 hzz4 ⊢
  go_upto_region 5 with (refine wpList_store_row rfl 38 (.tmp 8) (.tmp 29) rfl w4.heap.size I4 rfl rfl _ _ FZ4.out (by rw [hI4]; kernel_rfl) (by rw [hI4]; rfl) HOne4.out ?_)
  generalize (w4.alloc (.cells #[.string ⟨#[]⟩, .int .i64 0, .slice none 0 0, .slice none 0 0, .slice none 0 0, .slice none 0 0, .slice none 0 0, .slice none 0 0, .int .i64 0, .slice none 0 0, .slice none 0 0, .slice none 0 0, .slice none 0 0, .slice none 0 0, .int .i64 0] 38 (0, 0))).setRow w4.heap.size I4 = w5 at BZ4 FR4 hzz4 ⊢
  clear FZ4 HOne4
  have F5 := Lib.hid ((BZ4.block w.heap.size (by omega)).trans F4.out)
  have LF5 := Lib.hid (LF4.out.keeps (fun b hb => BZ4.block b (by have hb : b < w3.heap.size := hb; omega)))
  have B5 := Lib.hid (B4.out.trans (BZ4.mono (by omega)))
  have HM5 : Hid (ImgM (· < w5.heap.size) w5 v4 im) := Lib.hid ((HM4.out.keeps (fun b hb => BZ4.block b hb.2)).imp (fun b hb => by have := hb.2; show b < _; omega))
  clear F4 LF4 B4 BZ4 HM4 hm4
  have hE4 := iencode_any w5 v4 im HM5.out
  rw [hIe4, Hm0.out, Hfe.out] at hE4
  have HE4 := Lib.hid hE4
  clear hE4
  go_wp2_with (refine wpList_load_row rfl 38 (.tmp 8) rfl w4.heap.size rfl _ _ _ _ FR4.out Try.underlying38 rfl (by rw [hI4]; kernel_rfl) ?_)
  go_wp2_with fail
  refine HE4.out.mono ?_
  rintro e w6 ⟨r4, rfl, hb6, -, hr4⟩
  have hz6 := hb6.size
  have O6 := hr4 (by first | trivial | rfl)
  have F6 := Lib.hid ((hb6.block w.heap.size (by omega)).trans F5.out)
  have FR6 := Lib.hid ((hb6.block w4.heap.size (by omega)).trans FR4.out)
  have B6 := Lib.hid (B5.out.trans (hb6.mono (by omega)))
  have HM6 := Lib.hid (HM5.out.later hb6)
  have s1 := run_str (LF5.out.keeps (fun b hb => hb6.block b (by have hb : b < w3.heap.size := hb; omega)))
  have s2 := run_str O6.lb
  clear hb6 hr4 O6 F5 FR4 B5 HM5 LF5 HE4
  clear hI4
  subst hIe4
  obtain ⟨pa, pb, poff, pcap, hpv, hpm, hpc, hpat⟩ := HM6.out.relocs.at
  obtain ⟨oa, ocap, hov⟩ := HM6.out.slots.form
  obtain ⟨za, zb, zoff, zcap, hzv, hzm, hzc, hzat⟩ := HM6.out.syms.at
  obtain ⟨ka, kcap, hkv⟩ := HM6.out.tls.form
  have s3 := run_str HM6.out.tls
  have TT := (V0.out.keeps (fun b hb => B6.out.block b hb))
  have s4 := run_str (HTl.out.keeps (fun b hb => B6.out.block b hb))
  have Hpat := Lib.hid hpat
  have Hzat := Lib.hid hzat
  obtain ⟨csegs, cneeded, crunPath, csyms, cbuckets, cwords, crelocs, cslots, cinit, cfini, ctls⟩ := v4
  simp only at hpv hov hzv hkv
  subst hpv hov hzv hkv
  unfold imgCells at FR6 ⊢
  dsimp only at FR6 s3 ⊢
  clear HM6 TT hpat hzat
  obtain ⟨i0, i1, i2, i3, i4, i5, i6, i7, i8, i9, i10, i11, i12, i13, i14⟩ := img_cells F6.out
  obtain ⟨j0, j1, j2, j3, j4, j5, j6, j7, j8, j9, j10, j11, j12, j13, j14⟩ := img_cells FR6.out
  clear i2 i3 i4 i6 i7 i8 i11 i12 j2 j3 j4 j6 j7 j8 j11 j12
  go_wp2_with fail
  clear s1 s2 s3 s4
  go_loopw [12] (fun i wr => ∃ k : Nat, i = .int .i64 k ∧ k ≤ im.syms.length ∧ Below w6.heap.size w6 wr) (fun i _ => im.syms.length - (intOf i).toNat)
  case atStart => exact ⟨0, rfl, Nat.zero_le _, Below.refl _ _⟩
  case round =>
    clear i0 i1 i5 i9 i10 i13 i14 j0 j1 j5 j9 j10 j13 j14
    obtain ⟨k, rfl, hk, hbel⟩ := hrel
    have Hbel := Lib.hid hbel
    have hzr := hbel.size
    obtain ⟨i0, i1, i2, i3, i4, i5, i6, i7, i8, i9, i10, i11, i12, i13, i14⟩ := img_cells ((hbel.block w.heap.size (by omega)).trans F6.out)
    obtain ⟨j0, j1, j2, j3, j4, j5, j6, j7, j8, j9, j10, j11, j12, j13, j14⟩ := img_cells ((hbel.block w4.heap.size (by omega)).trans FR6.out)
    clear i2 i3 i4 i6 i7 i8 i11 i12 j2 j3 j4 j6 j7 j8 j11 j12
    by_cases hlt : k < im.syms.length
    · obtain rfl := Hyat.out.addr (by omega)
      obtain rfl := Hzat.out.addr (by omega)
      obtain ⟨s, hx⟩ : ∃ s, im.syms[k]? = some s := ⟨_, List.getElem?_eq_getElem hlt⟩
      obtain ⟨-, g0, g1, g2, g3, g4, g5, g6, g7, g8⟩ := (Hyat.out.below (B6.out.trans (hbel.mono (by omega)))).sym9 k s hx
      obtain ⟨-, q0, q1, q2, q3, q4, q5, q6, q7, q8⟩ := (Hzat.out.below (hbel)).sym9 k s hx
      clear hx hbel
      go_upto_region 11 with fail
      have l0 := fun y : Later wr => y.cell g0
      have m0 := fun y : Later wr => y.cell q0
      have l1 := fun y : Later wr => y.cell g1
      have m1 := fun y : Later wr => y.cell q1
      have l2 := fun y : Later wr => y.cell g2
      have m2 := fun y : Later wr => y.cell q2
      have l3 := fun y : Later wr => y.cell g3
      have m3 := fun y : Later wr => y.cell q3
      have l4 := fun y : Later wr => y.cell g4
      have m4 := fun y : Later wr => y.cell q4
      have l5 := fun y : Later wr => y.cell g5
      have m5 := fun y : Later wr => y.cell q5
      have l6 := fun y : Later wr => y.cell g6
      have m6 := fun y : Later wr => y.cell q6
      have l7 := fun y : Later wr => y.cell g7
      have m7 := fun y : Later wr => y.cell q7
      have l8 := fun y : Later wr => y.cell g8
      have m8 := fun y : Later wr => y.cell q8
      have li := fun y : Later wr => y.cell i5
      have lj := fun y : Later wr => y.cell j5
      clear g0 g1 g2 g3 g4 g5 g6 g7 g8 q0 q1 q2 q3 q4 q5 q6 q7 q8 i0 i1 i5 i9 i10 i13 i14 j0 j1 j5 j9 j10 j13 j14
      refine wp_region_later (by kernel_rfl) (by kernel_rfl) ?_
      repeat (go_big_quiet_step (fail))
      refine wpQuiet_nil ?_
      rintro _ ⟨⟨wq, hq⟩, rfl⟩
      try simp only at hq
      have Hq := Lib.hid hq
      clear hq li lj l0 l1 l2 l3 l4 l5 l6 l7 l8 m0 m1 m2 m3 m4 m5 m6 m7 m8
      go_wp2
      go_roundw
      case rel => exact ⟨k + 1, by go_num, by omega, Hbel.out.trans (Hq.out.mono (by omega))⟩
      case measure => simp [intOf]; omega
    · have F7 := Lib.hid ((hbel.block w.heap.size (by omega)).trans F6.out)
      have FR7 := Lib.hid ((hbel.block w4.heap.size (by omega)).trans FR6.out)
      have B7 := Lib.hid (B6.out.trans (hbel.mono (by omega)))
      have P7 := Lib.hid (Hpat.out.below hbel)
      clear Hyat Hzat Hpat F6 FR6 B6 Hbel hbel
      go_wp2_with fail
      clear hlt
      obtain ⟨w7, hw7⟩ : ∃ x : World, x = wr := ⟨_, rfl⟩
      subst hw7
      go_loopw [13] (fun i wr => ∃ k : Nat, i = .int .i64 k ∧ k ≤ im.relocs.length ∧ Below w7.heap.size w7 wr) (fun i _ => im.relocs.length - (intOf i).toNat)
      case atStart => exact ⟨0, rfl, Nat.zero_le _, Below.refl _ _⟩
      case round =>
        clear i0 i1 i5 i9 i10 i13 i14 j0 j1 j5 j9 j10 j13 j14
        obtain ⟨k, rfl, hk, hbel⟩ := hrel
        have Hbel := Lib.hid hbel
        have hzr := hbel.size
        obtain ⟨i0, i1, i2, i3, i4, i5, i6, i7, i8, i9, i10, i11, i12, i13, i14⟩ := img_cells ((hbel.block w.heap.size (by omega)).trans F7.out)
        obtain ⟨j0, j1, j2, j3, j4, j5, j6, j7, j8, j9, j10, j11, j12, j13, j14⟩ := img_cells ((hbel.block w4.heap.size (by omega)).trans FR7.out)
        clear i2 i3 i4 i6 i7 i8 i11 i12 j2 j3 j4 j6 j7 j8 j11 j12
        by_cases hlt : k < im.relocs.length
        · obtain rfl := Hrat.out.addr (by omega)
          obtain rfl := P7.out.addr (by omega)
          obtain ⟨s, hx⟩ : ∃ s, im.relocs[k]? = some s := ⟨_, List.getElem?_eq_getElem hlt⟩
          obtain ⟨g0, g1, g2, g3⟩ := (Hrat.out.below (B7.out.trans (hbel.mono (by omega)))).rel4 k s hx
          obtain ⟨q0, q1, q2, q3⟩ := (P7.out.below (hbel.mono (by omega))).rel4 k s hx
          clear hx hbel
          go_upto_region 16 with fail
          have l0 := fun y : Later wr => y.cell g0
          have m0 := fun y : Later wr => y.cell q0
          have l1 := fun y : Later wr => y.cell g1
          have m1 := fun y : Later wr => y.cell q1
          have l2 := fun y : Later wr => y.cell g2
          have m2 := fun y : Later wr => y.cell q2
          have l3 := fun y : Later wr => y.cell g3
          have m3 := fun y : Later wr => y.cell q3
          have li := fun y : Later wr => y.cell i9
          have lj := fun y : Later wr => y.cell j9
          clear g0 g1 g2 g3 q0 q1 q2 q3 i0 i1 i5 i9 i10 i13 i14 j0 j1 j5 j9 j10 j13 j14
          refine wp_region_later (by kernel_rfl) (by kernel_rfl) ?_
          repeat (go_big_quiet_step (fail))
          refine wpQuiet_nil ?_
          rintro _ ⟨⟨wq, hq⟩, rfl⟩
          try simp only at hq
          have Hq := Lib.hid hq
          clear hq li lj l0 l1 l2 l3 m0 m1 m2 m3
          go_wp2
          go_roundw
          case rel => exact ⟨k + 1, by go_num, by omega, Hbel.out.trans (Hq.out.mono (by omega))⟩
          case measure => simp [intOf]; omega
        · have BT := Lib.hid (B7.out.trans (hbel.mono (by omega)))
          clear Hrat P7 F7 FR7 B7 Hbel hbel
          go_upto_region 18 with fail
          clear hlt i0 i1 i5 i9 i10 i13 i14 j0 j1 j5 j9 j10 j13 j14
          have VT := Lib.hid (V0.out.keeps (fun b hb => BT.out.block b hb))
          have hzT := BT.out.size
          have HDT := Lib.hid (HD.out wr _ bs (VT.out.imp (fun b hb => by have hb : b < w.heap.size := hb; show b < _; omega)) HL.out (by omega))
          go_wp2_with fail
          refine HDT.out.mono ?_
          rintro e w8 ⟨v8, im8, code8, rfl, hb8, hm8, -, hd8, he8⟩
          have hz8 := hb8.size
          have V8 := Lib.hid (VT.out.keeps (fun b hb => hb8.block b (by have hb : b < w.heap.size := hb; omega)))
          have B8 := Lib.hid (BT.out.trans (hb8.mono (by omega)))
          have Hd8 := Lib.hid hd8
          have He8 := Lib.hid he8
          have HM8 := Lib.hid hm8
          clear hb8 HDT VT BT hd8 he8
          have HOne8 := Lib.hid hm8.cells
          have hI8 : (imgCells v8 im8).size = 15 := rfl
          have FZ8 := Lib.hid (heap_alloc_new w8 (.cells #[.string ⟨#[]⟩, .int .i64 0, .slice none 0 0, .slice none 0 0, .slice none 0 0, .slice none 0 0, .slice none 0 0, .slice none 0 0, .int .i64 0, .slice none 0 0, .slice none 0 0, .slice none 0 0, .slice none 0 0, .slice none 0 0, .int .i64 0] 38 (0, 0)))
          have BZ8 : Below w8.heap.size w8 ((w8.alloc (.cells #[.string ⟨#[]⟩, .int .i64 0, .slice none 0 0, .slice none 0 0, .slice none 0 0, .slice none 0 0, .slice none 0 0, .slice none 0 0, .int .i64 0, .slice none 0 0, .slice none 0 0, .slice none 0 0, .slice none 0 0, .slice none 0 0, .int .i64 0] 38 (0, 0))).setRow w8.heap.size (imgCells v8 im8)) := ((((Step.refl (· < w8.heap.size) w8).alloc (fun b hb => hb) _).trans ((step_setRow0 _ w8.heap.size (imgCells v8 im8)).imp (fun x hx => by have hx : x < w8.heap.size := hx; show x ≠ _; omega)))).below
          have FR8 := Lib.hid (setRow_heap _ w8.heap.size _ (imgCells v8 im8) _ _ FZ8.out)
          have hzz8 : w8.heap.size < ((w8.alloc (.cells #[.string ⟨#[]⟩, .int .i64 0, .slice none 0 0, .slice none 0 0, .slice none 0 0, .slice none 0 0, .slice none 0 0, .slice none 0 0, .int .i64 0, .slice none 0 0, .slice none 0 0, .slice none 0 0, .slice none 0 0, .slice none 0 0, .int .i64 0] 38 (0, 0))).setRow w8.heap.size (imgCells v8 im8)).heap.size := by simp
          obtain ⟨I8, hIe8⟩ : ∃ c, imgCells v8 im8 = c := ⟨_, rfl⟩
          rw [hIe8] at HOne8 hI8 BZ8 FR8 hzz8 ⊢
          go_upto_region 19 with (refine wpList_store_row rfl 38 (.tmp 14) (.tmp 145) rfl w8.heap.size I8 rfl rfl _ _ FZ8.out (by rw [hI8]; kernel_rfl) (by rw [hI8]; rfl) HOne8.out ?_)
          generalize (w8.alloc (.cells #[.string ⟨#[]⟩, .int .i64 0, .slice none 0 0, .slice none 0 0, .slice none 0 0, .slice none 0 0, .slice none 0 0, .slice none 0 0, .int .i64 0, .slice none 0 0, .slice none 0 0, .slice none 0 0, .slice none 0 0, .slice none 0 0, .int .i64 0] 38 (0, 0))).setRow w8.heap.size I8 = w9 at BZ8 FR8 hzz8 ⊢
          clear FZ8 HOne8
          have V9 := Lib.hid (V8.out.keeps (fun b hb => BZ8.block b (by have hb : b < w.heap.size := hb; omega)))
          have B9 := Lib.hid (B8.out.trans (BZ8.mono (by omega)))
          have HM9 : Hid (ImgM (· < w9.heap.size) w9 v8 im8) := Lib.hid ((HM8.out.keeps (fun b hb => BZ8.block b hb.2)).imp (fun b hb => by have := hb.2; show b < _; omega))
          clear V8 B8 BZ8 HM8 hm8
          by_cases hc : code8 = 0
          case neg =>
            have hd1 : (code8 != 0) = true := by simpa using hc
            clear Hd8 He8 HM9 V9 FR8
            go_wp2
            go_ret
            exact ⟨rfl, B9.out⟩
          obtain ⟨x8, hx1, hx2⟩ := He8.out hc
          obtain ⟨rfl, -⟩ := Hd8.out x8 hx1 hx2
          subst hc
          have hE8 := iencode_any w9 v8 im8 HM9.out
          have hM8 := fun w' (hb : Below w9.heap.size w9 w') => imay_any w' v8 im8 (HM9.out.later hb)
          rw [hIe8, hx2] at hE8
          have HM8 := Lib.hid (fun w' hb => by have h := hM8 w' hb; rw [hIe8, hx2] at h; exact h)
          have HE8 := Lib.hid hE8
          have Hbs := Lib.hid (whole_back hx1).2
          clear hE8 hM8 HM9 Hd8 He8 hx1 hx2
          go_wp2_with (refine wpList_load_row rfl 38 (.tmp 14) rfl w8.heap.size rfl _ _ _ _ FR8.out Try.underlying38 rfl (by rw [hI8]; kernel_rfl) ?_)
          go_wp2_with fail
          refine HE8.out.mono ?_
          rintro e w10 ⟨r8, rfl, hb10, -, hr8⟩
          have hz10 := hb10.size
          have O8 := hr8 (by first | trivial | rfl)
          rw [Hbs.out] at O8
          have FR9 := Lib.hid ((hb10.block w8.heap.size (by omega)).trans FR8.out)
          have V10 := V9.out.keeps (fun b hb => hb10.block b (by have hb : b < w.heap.size := hb; omega))
          have B10 := Lib.hid (B9.out.trans (hb10.mono (by omega)))
          have HMy := Lib.hid (HM8.out w10 hb10)
          have s1 := run_str O8.lb
          have s2 := run_str V10
          clear hb10 hr8 O8 V10 V9 B9 HM8 HE8 FR8 Hbs
          clear hI8
          subst hIe8
          obtain ⟨csegs, cneeded, crunPath, csyms, cbuckets, cwords, crelocs, cslots, cinit, cfini, ctls⟩ := v8
          unfold imgCells at FR9 HMy ⊢
          dsimp only at FR9 HMy ⊢
          obtain ⟨i0, i1, i2, i3, i4, i5, i6, i7, i8, i9, i10, i11, i12, i13, i14⟩ := img_cells FR9.out
          go_wp2_with fail
          refine HMy.out.mono ?_
          rintro e w11 ⟨rfl, hb11⟩
          have B11 := Lib.hid (B10.out.trans (hb11.mono (by omega)))
          clear hb11 s1 s2 i0 i1 i2 i3 i4 i5 i6 i7 i8 i9 i10 i11 i12 i13 i14
          go_wp2
          go_ret
          exact ⟨rfl, B11.out⟩

end Go.Proofs.Ytbliedldlimpgaa

/- ImageBack, no condition: for every such input the law returns true, and its arguments read behind the call as they did. -/
namespace Go.Proofs.Ytbliedldlimpgaa.imageBackLaw
set_option linter.unusedVariables false
set_option linter.unusedSimpArgs false
open Go.ChangeShapes Go.WideShapes Go.ChangeAt Go.RowKit

set_option maxRecDepth 100000 in
theorem contract (HDec : DecSays) (H : Type) (enc : TypeId × Value → H) (W : World) (base : Nat) (args : Array Value) (ds gs : List (DataW H)) (before : List MemPlace)
    (hval : ∀ (j : Nat) t v, Try.f5.params[j]? = some t → args[j]? = some v → Value.okWide Try.prog W .any base t v)
    (hW : DataW.Whole enc Try.prog Try.f5.params.toList Rows.imageBackSpec.vars false W args.toList ds gs before) (hsz : (DataW.weightsEach Try.prog (Try.f5.params.toList ++ Rows.imageBackSpec.plain.varTypes Try.prog) (ds ++ gs)).all (· ≤ reachBytes) = true) :
    Calls Try.prog 5 args W fun e W' => ∃ v, e = .returned v ∧ Rows.imageBackSpec.post enc Try.prog Try.f5 false true false false W args v W' := by
  have hW' := hW
  obtain ⟨p, q, hA0, hV, rfl, hfz, hnd⟩ := hW
  have hA : DataW.TrodAll enc Try.prog W 0 (fun _ => true) true Try.f5.params.toList args.toList ds p := hA0
  rw [Try.params5] at hA hval hsz
  obtain ⟨v0, v1, d0, d1, p0, p1, rfl, rfl, rfl, h0, h1⟩ := trodAll_two hA
  obtain ⟨rfl, rfl⟩ := trodVars_none hV
  have hwt0 : ∀ k ∈ DataW.weights Try.prog 38 d0, k ≤ reachBytes := fun k hk => of_decide_eq_true (List.all_eq_true.1 hsz k (by exact List.mem_append_left _ hk))
  have hwt1 : ∀ k ∈ DataW.weights Try.prog 36 d1, k ≤ reachBytes := fun k hk => of_decide_eq_true (List.all_eq_true.1 hsz k (by exact List.mem_append_right _ (List.mem_append_left _ hk)))
  obtain ⟨vv, im, rfl, hm, gbk⟩ := open_image (hval 0 38 v0 rfl rfl) h0
  obtain ⟨a1, n1, c1, rfl⟩ := okWide_slice Try.underlying36 (hval 1 36 v1 rfl rfl)
  obtain ⟨f1, h1'⟩ := id h1
  obtain ⟨l1, hl1, hlenw1⟩ := open_bytesW h1'
  have hlen1 : l1.length ≤ 140737488351232 := by
    rcases Nat.eq_zero_or_pos l1.length with h0 | h0
    · omega
    · obtain ⟨k, hk, hk2⟩ := hlenw1 h0
      have h3 := hwt1 k hk
      rw [show Try.prog.bytesOf 5 = 1 by kernel_rfl] at hk2
      unfold reachBytes at h3
      omega
  clear hA0
  simp only [List.append_nil, List.nil_append] at hW' hfz
  have hlt0 : ∀ x ∈ p0, x.block < W.heap.size := fun x hx => hW'.lt x (by simp [hx])
  have hlt1 : ∀ x ∈ p1, x.block < W.heap.size := fun x hx => hW'.lt x (by simp [hx])
  refine (back_of HDec W vv im _ l1 hm hl1 (by omega)).mono fun e W' ⟨he, hbl⟩ => ?_
  subst he
  exact ⟨_, rfl, ⟨_, _, _, [], p0 ++ p1, [], hW', trodAll_mk1 (shut_bool Try.underlying4 _),
    trodAll_mk2 (Below.trod laidOut (by kernel_rfl) (of_decide_eq_true (by kernel_rfl)) h0 hbl hlt0) (Below.trod laidOut (by kernel_rfl) (of_decide_eq_true (by kernel_rfl)) h1 hbl hlt1), rfl, hbl.frame _, fun h => by cases h⟩⟩

set_option maxRecDepth 100000 in
theorem lifted (HDec : DecSays) (os : Os) (started : os.Started) (H : Type) (enc : TypeId × Value → H) :
    ReturnsInHanded {} Try.checked os 5 .any (Rows.imageBackSpec.pre6 enc Try.prog Try.f5 Rows.imageBackRow.domain false) (Rows.imageBackSpec.post enc Try.prog Try.f5 false true false false) := by
  refine returnsInHanded_of_change_sized (C := Try.checked) own started (by kernel_rfl) Try.func5
    (ChangeSpec.witness6 (enc := enc) (C := Try.checked) false ⟨#[], #[.agg (imgCells noneV noneImg), .slice none 0 0], []⟩ 12 (by kernel_rfl) (by kernel_rfl) (by kernel_rfl) (by kernel_rfl)) ?_
  intro W base args ds gs before hval hW _ hsz _
  exact contract HDec H enc W base args ds gs before hval hW hsz

theorem over (HDec : DecSays) : Rows.ImageBackSaid :=
  OpenClaim.holds_of_wide 5 Try.f5 rfl rfl rfl rfl rfl rfl rfl ⟨rfl, rfl, rfl, rfl, rfl⟩ rfl rfl rfl rfl rfl (by kernel_rfl) Try.func5 (by kernel_rfl)
    (of_decide_eq_true (by kernel_rfl)) (by unfold Func.isWrapper; first | (rw [if_pos (by decide +kernel)]; kernel_rfl) | (rw [if_neg (by decide +kernel)]; exact ⟨rfl, rfl⟩))
    (fun os started H enc _ => lifted HDec os started H enc)

end Go.Proofs.Ytbliedldlimpgaa.imageBackLaw

namespace Go.Proofs.Ytbliedldlimpgaa.imageBackLaw
set_option linter.unusedVariables false
set_option linter.unusedSimpArgs false

theorem proved : Rows.ImageBackSaid := over dec_says

end Go.Proofs.Ytbliedldlimpgaa.imageBackLaw
