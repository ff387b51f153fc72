/- ImageMays, no condition: for every such input the law returns true, and its arguments read behind the call as they did. -/
import Derived.Test.YtbliedldlimpgaaBas10
import Derived.Test.YtbliedldlimpgaaBas15
import Derived.Test.YtbliedldlimpgaaMay1
import Derived.Test.YtbliedldlimpgaaMay2
import Derived.Test.YtbliedldlimpgaaMay3
import Derived.Test.YtbliedldlimpgaaBas9
import Derived.Test.YtbliedldlimpgaaBas14
import Derived.Test.YtbliedldlimpgaaBas31
import Derived.Test.YtbliedldlimpgaaBas32
import Derived.Deep.QuietTactic
import Derived.BigQuiet
import Derived.IntWalk

namespace Go.Proofs.Ytbliedldlimpgaa
set_option linter.unusedVariables false
set_option linter.unusedSimpArgs false
open Go.RowKit

set_option maxHeartbeats 16000000 in
set_option maxRecDepth 100000 in
theorem jsegs_any (w : World) (v : ImgV) (im : ImgL) (hs : LB kSeg (· < w.heap.size) w v.segs im.segs) (hr : ∀ s ∈ im.segs, -9223372036854775808 ≤ s.at_ ∧ s.size ≤ 9223372036854775807) :
    Calls Try.prog 28 #[.agg (imgCells v im)] w fun e w' => e = .returned (.bool (segsB im.segs)) ∧ Below w.heap.size w w' := by
  unfold imgCells
  obtain ⟨sa, sb, soff, scap, hsv, hsm, hsc, hat⟩ := hs.at
  rw [hsv]
  have Hat := Lib.hid hat
  have Hr := Lib.hid hr
  have Hd : Hid (segsB im.segs = (decide (1 ≤ im.segs.length) && decide (im.segs.length ≤ 8) && segsFrom 0 im.segs)) := Lib.hid rfl
  clear hs hat hsv hr
  by_cases hl1 : 1 ≤ im.segs.length
  case neg =>
    have Hn : Hid (segsB im.segs = false) := Lib.hid (by rw [Hd.out]; simp [hl1])
    have hl2 : im.segs.length < 1 := by omega
    go_enter Try.func28, Try.ntmps28
    go_wp2
    go_ret
    exact ⟨by rw [Hn.out]; rfl, (Below.refl _ _).alloc (Nat.le_refl _) _⟩
  by_cases hl2 : im.segs.length ≤ 8
  case neg =>
    have Hn : Hid (segsB im.segs = false) := Lib.hid (by rw [Hd.out]; simp [hl2])
    have hl3 : ¬ im.segs.length < 1 := by omega
    have hl4 : 8 < im.segs.length := by omega
    go_enter Try.func28, Try.ntmps28
    go_wp2
    go_ret
    exact ⟨by rw [Hn.out]; rfl, (Below.refl _ _).alloc (Nat.le_refl _) _⟩
  have hl3 : ¬ im.segs.length < 1 := by omega
  have hl4 : ¬ 8 < im.segs.length := by omega
  have Hd2 : Hid (segsB im.segs = segsFrom 0 im.segs) := Lib.hid (by rw [Hd.out]; simp [hl1, hl2])
  clear Hd
  go_enter Try.func28, Try.ntmps28
  go_wp2
  go_loopw [3] (fun i wr => ∃ (k : Nat) (e : Int), i = .int .i64 k ∧ k ≤ im.segs.length ∧ 0 ≤ e ∧ e ≤ 200000 ∧ segsFrom 0 im.segs = segsFrom e (im.segs.drop k) ∧ (k = 0 → e = 0) ∧ (∀ p, 0 < k → im.segs[k - 1]? = some p → e = upL (p.at_ + p.size) ∧ 0 ≤ p.at_ ∧ p.at_ ≤ 65536 ∧ 1 ≤ p.size ∧ p.size ≤ 65536) ∧ Below w.heap.size w wr ∧ wr.cell? ⟨w.heap.size, 2, none⟩ = some (.slice sa im.segs.length scap) ∧ w.heap.size < wr.heap.size) (fun i _ => im.segs.length - (intOf i).toNat)
  case atStart => exact ⟨0, 0, rfl, Nat.zero_le _, by omega, by omega, by simp, fun _ => rfl, fun p h => absurd h (Nat.lt_irrefl 0), (Below.refl _ _).alloc (Nat.le_refl _) _, by simp, by simp⟩
  case round =>
    obtain ⟨k, e, rfl, hk, he0, he1, hse, hk0, hkp, hbel, hq, hzq⟩ := hrel
    have Hse := Lib.hid hse
    have Hk0 := Lib.hid hk0
    have Hkp := Lib.hid hkp
    have Hbel := Lib.hid hbel
    have Hq := Lib.hid hq
    have hBr := hbel.size
    by_cases hlt : k < im.segs.length
    · obtain rfl := Hat.out.addr (by omega)
      obtain ⟨s, hx⟩ : ∃ s, im.segs[k]? = some s := ⟨_, List.getElem?_eq_getElem hlt⟩
      obtain ⟨c, g0, g1, g2, g3, hc⟩ := (Hat.out.below hbel).seg4 k s hx
      obtain ⟨ca, cc, rfl⟩ := hc.form
      have hr := Hr.out s (List.mem_of_getElem? hx)
      have Hdc := Lib.hid (drop_cons im.segs k s hx)
      have Hx := Lib.hid hx
      have hcm := hc.max
      clear hse hx hc hk0 hkp
      by_cases hg : 0 ≤ s.at_ ∧ s.at_ ≤ 65536 ∧ s.at_ % 64 = 0 ∧ 1 ≤ s.size ∧ s.at_ + s.size ≤ 65536 ∧ (s.bytes.length : Int) ≤ s.size ∧ 0 ≤ s.perm ∧ s.perm ≤ 7
      · have Hgood : Hid (e ≤ s.at_ → SegGood e s) := Lib.hid (fun h => ⟨h, hg.1, hg.2.1, hg.2.2.1, hg.2.2.2.1, hg.2.2.2.2.1, hg.2.2.2.2.2.1, hg.2.2.2.2.2.2.1, hg.2.2.2.2.2.2.2⟩)
        have Hyes : Hid (e ≤ s.at_ → segsFrom 0 im.segs = segsFrom (upL (s.at_ + s.size)) (im.segs.drop (k + 1))) := Lib.hid (fun h => by rw [Hse.out, Hdc.out, segsFrom_good (Hgood.out h)])
        have Hno : Hid (¬ e ≤ s.at_ → segsB im.segs = false) := Lib.hid (fun h => by rw [Hd2.out, Hse.out, Hdc.out, segsFrom_bad (fun hg => h hg.1)])
        obtain ⟨h2, h3, h4, h5, h6, h7, h8, h9⟩ := hg
        have Hnext : Hid (∀ p, 0 < k + 1 → im.segs[k + 1 - 1]? = some p → upL (s.at_ + s.size) = upL (p.at_ + p.size) ∧ 0 ≤ p.at_ ∧ p.at_ ≤ 65536 ∧ 1 ≤ p.size ∧ p.size ≤ 65536) := Lib.hid (fun p _ hp => by
          rw [Nat.add_sub_cancel, Hx.out] at hp
          obtain rfl := Option.some.inj hp
          exact ⟨rfl, h2, h3, h5, by omega⟩)
        have Hu0 : Hid (0 ≤ upL (s.at_ + s.size) ∧ upL (s.at_ + s.size) ≤ 200000) := Lib.hid (by unfold upL; omega)
        have hm : (s.at_ % 64 != 0) = false := by rw [bne_eq_false_iff_eq]; exact h4
        clear h4
        generalize hsat : s.at_ = sat at *
        generalize hssz : s.size = ssz at *
        generalize s.perm = spm at *
        have Hsat := Lib.hid hsat
        have Hssz := Lib.hid hssz
        clear hsat hssz
        by_cases hk1 : k = 0
        · subst hk1
          have he := Hk0.out rfl
          subst he
          have Hy := Lib.hid (Hyes.out h2)
          simp only [Nat.zero_mul, Nat.add_zero] at g0 g1 g2 g3
          clear hbel
          go_wp2_with fail
          go_quiet (fail)
          go_wp2
          go_roundw
          case rel => exact ⟨1, _, by go_num, by omega, Hu0.out.1, Hu0.out.2, Hy.out, fun h => by omega, Hnext.out, below_drewN (Hbel.out.alloc hBr _) _, by rw [World.cell?_drewN, World.cell?_alloc_lt _ _ _ hzq]; exact Hq.out, by simp; omega⟩
          case measure => simp [intOf]; omega
        · obtain ⟨p, hp⟩ : ∃ p, im.segs[k - 1]? = some p := ⟨_, List.getElem?_eq_getElem (by omega)⟩
          obtain ⟨hpe, p0, p1, p2, p3⟩ := Hkp.out p (by omega) hp
          obtain ⟨_, q0, q1, _, _, _⟩ := (Hat.out.below hbel).seg4 (k - 1) p hp
          have hk2 : 0 < k := by omega
          obtain ⟨kk, rfl⟩ : ∃ kk, k = kk + 1 := ⟨k - 1, by omega⟩
          simp only [Nat.add_sub_cancel] at q0 q1
          have hsbz : sb < wr.heap.size := World.block_lt_of_cell? _ _ q0
          have hkk0 : (0 : Int) ≤ kk := by omega
          have hkk1 : (kk : Int) < im.segs.length := by omega
          have hkk2 : kk < im.segs.length := by omega
          have hup0 : 0 ≤ p.at_ + p.size := by omega
          have hup1 : p.at_ + p.size ≤ 1000000 := by omega
          clear hbel hp
          generalize p.at_ = pat at *
          generalize p.size = psz at *
          have Hpe := Lib.hid hpe
          clear hpe
          by_cases h1 : upL (pat + psz) ≤ sat
          · have Hy := Lib.hid (Hyes.out (by rw [Hpe.out]; exact h1))
            go_wp2_with fail
            refine wp_region_quiet_lit (by kernel_rfl) (by kernel_rfl) ?_
            repeat (any_goals (first | go_big_quiet_step ((go_at_call 72; exact Calls.quiet_of_same (jup_any _ _ hup0 hup1))) | quiet_step ((go_at_call 72; exact Calls.quiet_of_same (jup_any _ _ hup0 hup1)))))
            all_goals (refine wpQuiet_nil ?_; intro _ hw'; obtain ⟨nq, hw''⟩ := hw'; subst hw'')
            go_wp2
            go_roundw
            case rel => exact ⟨kk + 1 + 1, _, by go_num, by omega, Hu0.out.1, Hu0.out.2, Hy.out, fun h => by omega, Hnext.out, below_drewN (Hbel.out.alloc hBr _) _, by rw [World.cell?_drewN, World.cell?_alloc_lt _ _ _ hzq]; exact Hq.out, by simp; omega⟩
            case measure => simp [intOf]; omega
          · have Hn : Hid (segsB im.segs = false) := Lib.hid (Hno.out (by rw [Hpe.out]; exact h1))
            go_wp2_with fail
            refine wp_region_quiet_lit (by kernel_rfl) (by kernel_rfl) ?_
            repeat (any_goals (first | go_big_quiet_step ((go_at_call 72; exact Calls.quiet_of_same (jup_any _ _ hup0 hup1))) | quiet_step ((go_at_call 72; exact Calls.quiet_of_same (jup_any _ _ hup0 hup1)))))
            all_goals (refine wpQuiet_nil ?_; intro _ hw'; obtain ⟨nq, hw''⟩ := hw'; subst hw'')
            go_wp2
            go_ret
            exact ⟨by rw [Hn.out]; rfl, below_drewN (Hbel.out.alloc hBr _) _⟩
      · have Hn : Hid (segsB im.segs = false) := Lib.hid (by rw [Hd2.out, Hse.out, Hdc.out, segsFrom_bad (fun h => hg h.2)])
        have Hg := Lib.hid hg
        clear hg hbel
        generalize s.at_ = sat at *
        generalize s.size = ssz at *
        generalize s.perm = spm at *
        go_wp2_with fail
        all_goals first
          | (go_ret; exact ⟨by rw [Hn.out]; rfl, Hbel.out.alloc hBr _⟩)
          | (exfalso; have := Hg.out; (try simp only [beq_eq_false_iff_ne, bne_eq_false_iff_eq, bne_iff_ne, beq_iff_eq, ne_eq] at *); omega)
    · have Hn : Hid (segsB im.segs = true) := Lib.hid (by rw [Hd2.out, hse, List.drop_eq_nil_of_le (by omega)]; rfl)
      clear hse hbel
      go_wp2
      go_ret
      exact ⟨by rw [Hn.out]; rfl, Hbel.out⟩

end Go.Proofs.Ytbliedldlimpgaa

namespace Go.Proofs.Ytbliedldlimpgaa
set_option linter.unusedVariables false
set_option linter.unusedSimpArgs false
open Go.RowKit

set_option maxHeartbeats 16000000 in
set_option maxRecDepth 100000 in
theorem jmay_any (w : World) (v : ImgV) (im : ImgL) (hm : ImgM (· < w.heap.size) w v im) (hbl : ∀ c ∈ im.buckets, c.length ≤ 140737488355328) :
    Calls Try.prog 11 #[.agg (imgCells v im)] w fun e w' => e = .returned (.int .i64 (mayL im)) ∧ Below w.heap.size w w' := by
  obtain ⟨la, lcap, hlv⟩ := hm.tls.form
  have hlm := hm.tls.max
  obtain ⟨vsegs, vneeded, vrunPath, vsyms, vbuckets, vwords, vrelocs, vslots, vinit, vfini, vtls⟩ := v
  simp only at hlv
  subst hlv
  have HM : Hid (∀ w', Below w.heap.size w w' → ImgM (· < w'.heap.size) w' ⟨vsegs, vneeded, vrunPath, vsyms, vbuckets, vwords, vrelocs, vslots, vinit, vfini, .slice la im.tls.length lcap⟩ im) := Lib.hid (fun w' hb => hm.later hb)
  clear hm
  have HBL := Lib.hid hbl
  clear hbl
  generalize hI : (Array.mk [.string ⟨im.name.toArray⟩, .int .i64 im.flags, vsegs, vneeded, vrunPath, vsyms, vbuckets, vwords, .int .i64 im.shift, vrelocs, vslots, vinit, vfini, .slice la im.tls.length lcap, .int .i64 im.tlsSize] : Array Value) = I
  have F0 := Lib.hid (heap_alloc_new w (.cells I 38 (0, 0)))
  have B0 := Lib.hid ((Below.refl w.heap.size w).alloc (Nat.le_refl _) (.cells I 38 (0, 0)))
  have hz0 : (w.alloc (.cells I 38 (0, 0))).heap.size = w.heap.size + 1 := by simp
  subst hI
  have hcells : imgCells ⟨vsegs, vneeded, vrunPath, vsyms, vbuckets, vwords, vrelocs, vslots, vinit, vfini, .slice la im.tls.length lcap⟩ im = #[.string ⟨im.name.toArray⟩, .int .i64 im.flags, vsegs, vneeded, vrunPath, vsyms, vbuckets, vwords, .int .i64 im.shift, vrelocs, vslots, vinit, vfini, .slice la im.tls.length lcap, .int .i64 im.tlsSize] := rfl
  rw [hcells]
  clear hcells
  go_enter Try.func11, Try.ntmps11
  go_wp2_with fail
  generalize w.alloc (.cells #[.string ⟨im.name.toArray⟩, .int .i64 im.flags, vsegs, vneeded, vrunPath, vsyms, vbuckets, vwords, .int .i64 im.shift, vrelocs, vslots, vinit, vfini, .slice la im.tls.length lcap, .int .i64 im.tlsSize] 38 (0, 0)) = w0 at *
  have C1 := Lib.hid (jhead_any w0 _ im (HM.out w0 B0.out).needed (HM.out w0 B0.out).runPath (HM.out w0 B0.out).name)
  unfold imgCells at C1
  obtain ⟨i0, i1, i2, i3, i4, i5, i6, i7, i8, i9, i10, i11, i12, i13, i14⟩ := img_cells F0.out
  go_wp2_with fail
  refine C1.out.mono ?_
  rintro e w1 ⟨rfl, hb1⟩
  have hz1 := hb1.size
  have F1 := Lib.hid ((hb1.block w.heap.size (by omega)).trans F0.out)
  have B1 := Lib.hid (B0.out.trans (hb1.mono (by omega)))
  clear hb1 C1 i0 i1 i2 i3 i4 i5 i6 i7 i8 i9 i10 i11 i12 i13 i14
  cases hb : headB im with
  | false =>
    have Hr := Lib.hid (may_head hb)
    clear hb
    go_wp2
    go_ret
    exact ⟨by rw [Hr.out]; rfl, B1.out⟩
  | true =>
  have H1 := Lib.hid hb
  clear hb
  have C2 := Lib.hid (jsegs_any w1 _ im (HM.out w1 B1.out).segs (fun s hs => ⟨((HM.out w1 B1.out).segsR s hs).1.1, ((HM.out w1 B1.out).segsR s hs).2.1.2⟩))
  unfold imgCells at C2
  obtain ⟨i0, i1, i2, i3, i4, i5, i6, i7, i8, i9, i10, i11, i12, i13, i14⟩ := img_cells F1.out
  go_wp2_with fail
  refine C2.out.mono ?_
  rintro e w2 ⟨rfl, hb2⟩
  have hz2 := hb2.size
  have F2 := Lib.hid ((hb2.block w.heap.size (by omega)).trans F1.out)
  have B2 := Lib.hid (B1.out.trans (hb2.mono (by omega)))
  clear hb2 C2 i0 i1 i2 i3 i4 i5 i6 i7 i8 i9 i10 i11 i12 i13 i14
  cases hb : segsB im.segs with
  | false =>
    have Hr := Lib.hid (may_segs H1.out hb)
    clear hb
    go_wp2
    go_ret
    exact ⟨by rw [Hr.out]; rfl, B2.out⟩
  | true =>
  have H2 := Lib.hid hb
  clear hb
  obtain ⟨i0, i1, i2, i3, i4, i5, i6, i7, i8, i9, i10, i11, i12, i13, i14⟩ := img_cells F2.out
  clear i0 i1 i2 i3 i4 i5 i6 i7 i8 i9 i10 i11 i12
  have HD : Hid (tlsB im = (decide (0 ≤ im.tlsSize) && decide (im.tlsSize ≤ 4096) && decide ((im.tls.length : Int) ≤ im.tlsSize))) := Lib.hid rfl
  by_cases t0 : 0 ≤ im.tlsSize
  case neg =>
    have hb : tlsB im = false := by rw [HD.out, decide_eq_false (p := 0 ≤ im.tlsSize) t0]; simp
    have Hr := Lib.hid (may_tls H1.out H2.out hb)
    clear hb
    have hd0 : decide (im.tlsSize < 0) = true := by rw [decide_eq_true_eq]; omega
    go_wp2
    go_ret
    exact ⟨by rw [Hr.out]; rfl, B2.out⟩
  have hd0 : decide (im.tlsSize < 0) = false := by rw [decide_eq_false_iff_not]; omega
  by_cases t1 : im.tlsSize ≤ 4096
  case neg =>
    have hb : tlsB im = false := by rw [HD.out, decide_eq_false (p := im.tlsSize ≤ 4096) t1]; simp
    have Hr := Lib.hid (may_tls H1.out H2.out hb)
    clear hb
    have hd1 : decide (4096 < im.tlsSize) = true := by rw [decide_eq_true_eq]; omega
    go_wp2
    go_ret
    exact ⟨by rw [Hr.out]; rfl, B2.out⟩
  have hd1 : decide (4096 < im.tlsSize) = false := by rw [decide_eq_false_iff_not]; omega
  by_cases t2 : (im.tls.length : Int) ≤ im.tlsSize
  case neg =>
    have hb : tlsB im = false := by rw [HD.out, decide_eq_false (p := (im.tls.length : Int) ≤ im.tlsSize) t2]; simp
    have Hr := Lib.hid (may_tls H1.out H2.out hb)
    clear hb
    have hd2 : decide (im.tlsSize < (im.tls.length : Int)) = true := by rw [decide_eq_true_eq]; omega
    go_wp2
    go_ret
    exact ⟨by rw [Hr.out]; rfl, B2.out⟩
  have hd2 : decide (im.tlsSize < (im.tls.length : Int)) = false := by rw [decide_eq_false_iff_not]; omega
  have H3 : Hid (tlsB im = true) := Lib.hid (by rw [HD.out, decide_eq_true (p := 0 ≤ im.tlsSize) t0, decide_eq_true (p := im.tlsSize ≤ 4096) t1, decide_eq_true (p := (im.tls.length : Int) ≤ im.tlsSize) t2]; rfl)
  have htl : 0 ≤ im.tlsSize ∧ im.tlsSize ≤ 4096 := ⟨t0, t1⟩
  have C4 := Lib.hid (jsyms_any w2 _ im (HM.out w2 B2.out).segs (segOk_of H2.out) (HM.out w2 B2.out).syms htl)
  unfold imgCells at C4
  obtain ⟨i0, i1, i2, i3, i4, i5, i6, i7, i8, i9, i10, i11, i12, i13, i14⟩ := img_cells F2.out
  go_wp2_with fail
  refine C4.out.mono ?_
  rintro e w3 ⟨rfl, hb3⟩
  have hz3 := hb3.size
  have F3 := Lib.hid ((hb3.block w.heap.size (by omega)).trans F2.out)
  have B3 := Lib.hid (B2.out.trans (hb3.mono (by omega)))
  clear hb3 C4 i0 i1 i2 i3 i4 i5 i6 i7 i8 i9 i10 i11 i12 i13 i14
  cases hb : symsB im with
  | false =>
    have Hr := Lib.hid (may_syms H1.out H2.out H3.out hb)
    clear hb
    go_wp2
    go_ret
    exact ⟨by rw [Hr.out]; rfl, B3.out⟩
  | true =>
  have H4 := Lib.hid hb
  clear hb
  have C5 := Lib.hid (jtright_any w3 im _ _ _ (HM.out w3 B3.out).buckets (HM.out w3 B3.out).words (HM.out w3 B3.out).syms (HM.out w3 B3.out).wordsR HBL.out)
  obtain ⟨i0, i1, i2, i3, i4, i5, i6, i7, i8, i9, i10, i11, i12, i13, i14⟩ := img_cells F3.out
  go_wp2_with fail
  refine C5.out.mono ?_
  rintro e w4 ⟨rfl, hb4⟩
  have hz4 := hb4.size
  have F4 := Lib.hid ((hb4.block w.heap.size (by omega)).trans F3.out)
  have B4 := Lib.hid (B3.out.trans (hb4.mono (by omega)))
  clear hb4 C5 i0 i1 i2 i3 i4 i5 i6 i7 i8 i9 i10 i11 i12 i13 i14
  rw [tableJ_eq]
  cases hb : tableB im with
  | false =>
    have Hr := Lib.hid (may_table H1.out H2.out H3.out H4.out hb)
    clear hb
    go_wp2
    go_ret
    exact ⟨by rw [Hr.out]; rfl, B4.out⟩
  | true =>
  have H5 := Lib.hid hb
  clear hb
  have C6 := Lib.hid (jrelocs_any w4 _ im (HM.out w4 B4.out).segs H2.out (HM.out w4 B4.out).syms (head_flags H1.out) (HM.out w4 B4.out).relocs (HM.out w4 B4.out).relocsR (syms_sizes H2.out H3.out H4.out).1 (syms_sizes H2.out H3.out H4.out).2)
  unfold imgCells at C6
  obtain ⟨i0, i1, i2, i3, i4, i5, i6, i7, i8, i9, i10, i11, i12, i13, i14⟩ := img_cells F4.out
  go_wp2_with fail
  refine C6.out.mono ?_
  rintro e w5 ⟨rfl, hb5⟩
  have hz5 := hb5.size
  have F5 := Lib.hid ((hb5.block w.heap.size (by omega)).trans F4.out)
  have B5 := Lib.hid (B4.out.trans (hb5.mono (by omega)))
  clear hb5 C6 i0 i1 i2 i3 i4 i5 i6 i7 i8 i9 i10 i11 i12 i13 i14
  cases hb : relocsB im with
  | false =>
    have Hr := Lib.hid (may_relocs H1.out H2.out H3.out H4.out H5.out hb)
    clear hb
    go_wp2
    go_ret
    exact ⟨by rw [Hr.out]; rfl, B5.out⟩
  | true =>
  have H6 := Lib.hid hb
  clear hb
  have C7 := Lib.hid (jslots_any w5 _ im (HM.out w5 B5.out).segs H2.out (HM.out w5 B5.out).syms (HM.out w5 B5.out).relocs (HM.out w5 B5.out).relocsR H6.out (syms_sizes H2.out H3.out H4.out).1 (syms_sizes H2.out H3.out H4.out).2 (HM.out w5 B5.out).slots (HM.out w5 B5.out).slotsR)
  unfold imgCells at C7
  obtain ⟨i0, i1, i2, i3, i4, i5, i6, i7, i8, i9, i10, i11, i12, i13, i14⟩ := img_cells F5.out
  go_wp2_with fail
  refine C7.out.mono ?_
  rintro e w6 ⟨rfl, hb6⟩
  have hz6 := hb6.size
  have F6 := Lib.hid ((hb6.block w.heap.size (by omega)).trans F5.out)
  have B6 := Lib.hid (B5.out.trans (hb6.mono (by omega)))
  clear hb6 C7 i0 i1 i2 i3 i4 i5 i6 i7 i8 i9 i10 i11 i12 i13 i14
  cases hb : slotsB im with
  | false =>
    have Hr := Lib.hid (may_slots H1.out H2.out H3.out H4.out H5.out H6.out hb)
    clear hb
    go_wp2
    go_ret
    exact ⟨by rw [Hr.out]; rfl, B6.out⟩
  | true =>
  have H7 := Lib.hid hb
  clear hb
  have C8 := Lib.hid (jruns_any w6 _ im (HM.out w6 B6.out).segs (segOk_of H2.out) (HM.out w6 B6.out).init (HM.out w6 B6.out).fini (HM.out w6 B6.out).initR (HM.out w6 B6.out).finiR)
  unfold imgCells at C8
  obtain ⟨i0, i1, i2, i3, i4, i5, i6, i7, i8, i9, i10, i11, i12, i13, i14⟩ := img_cells F6.out
  go_wp2_with fail
  refine C8.out.mono ?_
  rintro e w7 ⟨rfl, hb7⟩
  have hz7 := hb7.size
  have F7 := Lib.hid ((hb7.block w.heap.size (by omega)).trans F6.out)
  have B7 := Lib.hid (B6.out.trans (hb7.mono (by omega)))
  clear hb7 C8 i0 i1 i2 i3 i4 i5 i6 i7 i8 i9 i10 i11 i12 i13 i14
  cases hb : (runB im im.init && runB im im.fini) with
  | false =>
    have Hr := Lib.hid (may_runs H1.out H2.out H3.out H4.out H5.out H6.out H7.out hb)
    clear hb
    go_wp2
    go_ret
    exact ⟨by rw [Hr.out]; rfl, B7.out⟩
  | true =>
  have H8 := Lib.hid hb
  clear hb
  have Hr := Lib.hid (may_good H1.out H2.out H3.out H4.out H5.out H6.out H7.out H8.out)
  go_wp2
  go_ret
  exact ⟨by rw [Hr.out]; rfl, B7.out⟩

end Go.Proofs.Ytbliedldlimpgaa

/- The law ImageMays: what the program's functions come to. -/
namespace Go.Proofs.Ytbliedldlimpgaa
set_option linter.unusedVariables false
set_option linter.unusedSimpArgs false
open Go.RowKit

set_option maxHeartbeats 16000000 in
set_option maxRecDepth 100000 in
theorem mays_of (HDec : DecSays) (w : World) (v : ImgV) (im : ImgL) (hm : ImgM (· < w.heap.size) w v im) (hbl : ∀ c ∈ im.buckets, c.length ≤ 140737488355328) :
    Calls Try.prog 3 #[.agg (imgCells v im)] w fun e w' => e = .returned (.bool true) ∧ Below w.heap.size w w' := by
  have HAw := Lib.hid (awake_says HDec)
  have HMay : Hid (∀ w', Below w.heap.size w w' → Calls Try.prog 10 #[.agg (imgCells v im)] w' fun e w'' => e = .returned (.int .i64 (mayL im)) ∧ Below w'.heap.size w' w'') := Lib.hid (fun w' hb => imay_any w' v im (hm.later hb))
  have HJ : Hid (∀ w', Below w.heap.size w w' → Calls Try.prog 11 #[.agg (imgCells v im)] w' fun e w'' => e = .returned (.int .i64 (mayL im)) ∧ Below w'.heap.size w' w'') := Lib.hid (fun w' hb => jmay_any w' v im (hm.later hb) hbl)
  obtain ⟨vsegs, vneeded, vrunPath, vsyms, vbuckets, vwords, vrelocs, vslots, vinit, vfini, vtls⟩ := v
  unfold imgCells at *
  clear hm hbl
  generalize hI : (Array.mk [.string ⟨im.name.toArray⟩, .int .i64 im.flags, vsegs, vneeded, vrunPath, vsyms, vbuckets, vwords, .int .i64 im.shift, vrelocs, vslots, vinit, vfini, vtls, .int .i64 im.tlsSize] : Array Value) = I at HMay HJ
  have F0 := Lib.hid (heap_alloc_new w (.cells I 38 (0, 0)))
  have B0 := Lib.hid ((Below.refl w.heap.size w).alloc (Nat.le_refl _) (.cells I 38 (0, 0)))
  have hz0 : w.heap.size < (w.alloc (.cells I 38 (0, 0))).heap.size := by simp
  subst hI
  go_enter Try.func3, Try.ntmps3
  go_upto_region 1 with fail
  generalize w.alloc (.cells #[.string ⟨im.name.toArray⟩, .int .i64 im.flags, vsegs, vneeded, vrunPath, vsyms, vbuckets, vwords, .int .i64 im.shift, vrelocs, vslots, vinit, vfini, vtls, .int .i64 im.tlsSize] 38 (0, 0)) = w1 at *
  go_wp2_with fail
  refine (HAw.out _).mono ?_
  rintro e w2 ⟨rfl, hb2⟩
  have hz2 := hb2.size
  have F2 := Lib.hid ((hb2.block w.heap.size hz0).trans F0.out)
  have B2 := Lib.hid (B0.out.trans (hb2.mono (by omega)))
  clear hb2 F0 B0 HAw
  obtain ⟨mm, hmm⟩ : ∃ mm, mayL im = mm := ⟨_, rfl⟩
  rw [hmm] at HMay HJ
  clear hmm
  obtain ⟨i0, i1, i2, i3, i4, i5, i6, i7, i8, i9, i10, i11, i12, i13, i14⟩ := img_cells F2.out
  go_wp2_with fail
  refine (HMay.out _ B2.out).mono ?_
  rintro e w3 ⟨rfl, hb3⟩
  have hz3 := hb3.size
  have F3 := Lib.hid ((hb3.block w.heap.size (by omega)).trans F2.out)
  have B3 := Lib.hid (B2.out.trans (hb3.mono (by omega)))
  clear hb3 F2 B2 HMay i0 i1 i2 i3 i4 i5 i6 i7 i8 i9 i10 i11 i12 i13 i14
  obtain ⟨i0, i1, i2, i3, i4, i5, i6, i7, i8, i9, i10, i11, i12, i13, i14⟩ := img_cells F3.out
  go_wp2_with fail
  refine (HJ.out _ B3.out).mono ?_
  rintro e w4 ⟨rfl, hb4⟩
  have B4 := Lib.hid (B3.out.trans (hb4.mono (by omega)))
  have hq : (mm == mm) = true := by simp
  clear hb4 F3 B3 HJ i0 i1 i2 i3 i4 i5 i6 i7 i8 i9 i10 i11 i12 i13 i14
  go_wp2
  go_ret
  exact ⟨by simp, B4.out⟩

end Go.Proofs.Ytbliedldlimpgaa

/- ImageMays, no condition: for every such input the law returns true, and its arguments read behind the call as they did. -/
namespace Go.Proofs.Ytbliedldlimpgaa.imageMaysLaw
set_option linter.unusedVariables false
set_option linter.unusedSimpArgs false
open Go.ChangeShapes Go.WideShapes Go.ChangeAt Go.RowKit

set_option maxRecDepth 100000 in
theorem contract (HDec : DecSays) (H : Type) (enc : TypeId × Value → H) (W : World) (base : Nat) (args : Array Value) (ds gs : List (DataW H)) (before : List MemPlace)
    (hval : ∀ (j : Nat) t v, Try.f3.params[j]? = some t → args[j]? = some v → Value.okWide Try.prog W .any base t v)
    (hW : DataW.Whole enc Try.prog Try.f3.params.toList Rows.imageMaysSpec.vars false W args.toList ds gs before) (hsz : (DataW.weightsEach Try.prog (Try.f3.params.toList ++ Rows.imageMaysSpec.plain.varTypes Try.prog) (ds ++ gs)).all (· ≤ reachBytes) = true) :
    Calls Try.prog 3 args W fun e W' => ∃ v, e = .returned v ∧ Rows.imageMaysSpec.post enc Try.prog Try.f3 false true false false W args v W' := by
  have hW' := hW
  obtain ⟨p, q, hA0, hV, rfl, hfz, hnd⟩ := hW
  have hA : DataW.TrodAll enc Try.prog W 0 (fun _ => true) true Try.f3.params.toList args.toList ds p := hA0
  rw [Try.params3] at hA hval hsz
  obtain ⟨v0, d0, rfl, rfl, h0⟩ := trodAll_one hA
  obtain ⟨rfl, rfl⟩ := trodVars_none hV
  have hwt0 : ∀ k ∈ DataW.weights Try.prog 38 d0, k ≤ reachBytes := fun k hk => of_decide_eq_true (List.all_eq_true.1 hsz k (by exact List.mem_append_left _ hk))
  obtain ⟨vv, im, rfl, hm, gbk⟩ := open_image (hval 0 38 v0 rfl rfl) h0
  clear hA0
  simp only [List.append_nil, List.nil_append] at hW' hfz
  have hlt0 : ∀ x ∈ p, x.block < W.heap.size := fun x hx => hW'.lt x (by simp [hx])
  refine (mays_of HDec W vv im hm (fun c hc => Nat.le_trans ((gbk c hc).2 hwt0) (by decide))).mono fun e W' ⟨he, hbl⟩ => ?_
  subst he
  exact ⟨_, rfl, ⟨_, _, _, [], p, [], hW', trodAll_mk1 (shut_bool Try.underlying4 _),
    trodAll_mk1 (Below.trod laidOut (by kernel_rfl) (of_decide_eq_true (by kernel_rfl)) h0 hbl hlt0), rfl, hbl.frame _, fun h => by cases h⟩⟩

set_option maxRecDepth 100000 in
theorem lifted (HDec : DecSays) (os : Os) (started : os.Started) (H : Type) (enc : TypeId × Value → H) :
    ReturnsInHanded {} Try.checked os 3 .any (Rows.imageMaysSpec.pre6 enc Try.prog Try.f3 Rows.imageMaysRow.domain false) (Rows.imageMaysSpec.post enc Try.prog Try.f3 false true false false) := by
  refine returnsInHanded_of_change_sized (C := Try.checked) own started (by kernel_rfl) Try.func3
    (ChangeSpec.witness6 (enc := enc) (C := Try.checked) false ⟨#[], #[.agg (imgCells noneV noneImg)], []⟩ 12 (by kernel_rfl) (by kernel_rfl) (by kernel_rfl) (by kernel_rfl)) ?_
  intro W base args ds gs before hval hW _ hsz _
  exact contract HDec H enc W base args ds gs before hval hW hsz

theorem over (HDec : DecSays) : Rows.ImageMaysSaid :=
  OpenClaim.holds_of_wide 3 Try.f3 rfl rfl rfl rfl rfl rfl rfl ⟨rfl, rfl, rfl, rfl, rfl⟩ rfl rfl rfl rfl rfl (by kernel_rfl) Try.func3 (by kernel_rfl)
    (of_decide_eq_true (by kernel_rfl)) (by unfold Func.isWrapper; first | (rw [if_pos (by decide +kernel)]; kernel_rfl) | (rw [if_neg (by decide +kernel)]; exact ⟨rfl, rfl⟩))
    (fun os started H enc _ => lifted HDec os started H enc)

end Go.Proofs.Ytbliedldlimpgaa.imageMaysLaw

namespace Go.Proofs.Ytbliedldlimpgaa.imageMaysLaw
set_option linter.unusedVariables false
set_option linter.unusedSimpArgs false

theorem proved : Rows.ImageMaysSaid := over dec_says

end Go.Proofs.Ytbliedldlimpgaa.imageMaysLaw
