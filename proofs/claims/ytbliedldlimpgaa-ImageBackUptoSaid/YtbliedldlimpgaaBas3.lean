/- Lemmas that the claim is proved from: what calls of functions of the program come to (contracts), and plain laws. Each lemma bears its own conditions. -/
import Derived.Test.YtbliedldlimpgaaBas2
import Derived.Deep.CutBlock
import Derived.Deep.RegionHeld

namespace Go.Proofs.Ytbliedldlimpgaa
set_option linter.unusedVariables false
set_option linter.unusedSimpArgs false
open Go.RowKit

theorem drop_cons {α : Type} (l : List α) (k : Nat) (x : α) (hx : l[k]? = some x) : l.drop k = x :: l.drop (k + 1) := by
  obtain ⟨h, rfl⟩ := List.getElem?_eq_some_iff.1 hx
  exact List.drop_eq_getElem_cons h
/-- a segment that may be, as inequalities -/
def SegGood (e : Int) (s : SegL) : Prop :=
  e ≤ s.at_ ∧ 0 ≤ s.at_ ∧ s.at_ ≤ 65536 ∧ s.at_ % 64 = 0 ∧ 1 ≤ s.size ∧ s.at_ + s.size ≤ 65536 ∧ (s.bytes.length : Int) ≤ s.size ∧ 0 ≤ s.perm ∧ s.perm ≤ 7
theorem segsFrom_good {e : Int} {s : SegL} {l : List SegL} (h : SegGood e s) : segsFrom e (s :: l) = segsFrom (upL (s.at_ + s.size)) l := by
  obtain ⟨h1, h2, h3, h4, h5, h6, h7, h8, h9⟩ := h
  simp [segsFrom, segB, h1, h2, h3, h4, h5, h6, h7, h8, h9]
theorem segsFrom_bad {e : Int} {s : SegL} {l : List SegL} (h : ¬ SegGood e s) : segsFrom e (s :: l) = false := by
  rw [segsFrom]
  by_cases h1 : (decide (e ≤ s.at_) && segB s) = true
  · exfalso
    apply h
    simp [segB] at h1
    unfold SegGood
    omega
  · simp only [Bool.not_eq_true] at h1
    rw [h1]; rfl

set_option maxHeartbeats 16000000 in
set_option maxRecDepth 100000 in
theorem isegs_any (w : World) (v : ImgV) (im : ImgL) (hs : LB kSeg (· < w.heap.size) w v.segs im.segs) (hr : ∀ s ∈ im.segs, -9223372036854775808 ≤ s.at_ ∧ s.size ≤ 9223372036854775807) :
    Calls Try.prog 21 #[.agg (imgCells v im)] w fun e w' => e = .returned (.bool (segsB im.segs)) ∧ Below w.heap.size w w' := by
  unfold imgCells
  obtain ⟨sa, sb, soff, scap, hsv, hsm, hsc, hat⟩ := hs.at
  rw [hsv]
  have Hat := Lib.hid hat
  have Hr := Lib.hid hr
  have Hd : Hid (segsB im.segs = (decide (1 ≤ im.segs.length) && decide (im.segs.length ≤ 8) && segsFrom 0 im.segs)) := Lib.hid rfl
  clear hs hat hsv hr
  go_enter Try.func21, Try.ntmps21
  go_wp2
  go_loopw [3, 9] (fun s3 i wr => ∃ (k : Nat) (e : Int), i = .int .i64 k ∧ k ≤ im.segs.length ∧ s3 = .int .i64 e ∧ 0 ≤ e ∧ e ≤ 200000 ∧ segsFrom 0 im.segs = segsFrom e (im.segs.drop k) ∧ Below w.heap.size w wr ∧ wr.cell? ⟨w.heap.size, 2, none⟩ = some (.slice sa im.segs.length scap) ∧ w.heap.size < wr.heap.size) (fun _ i _ => im.segs.length - (intOf i).toNat)
  case atStart => exact ⟨0, 0, rfl, Nat.zero_le _, rfl, by omega, by omega, by simp, (Below.refl _ _).alloc (Nat.le_refl _) _, by simp, by simp⟩
  case round =>
    obtain ⟨k, e, rfl, hk, rfl, he0, he1, hse, hbel, hq, hzq⟩ := hrel
    have Hq := Lib.hid hq
    have Hse := Lib.hid hse
    have Hbel := Lib.hid hbel
    have hBr := hbel.size
    by_cases hlt : k < im.segs.length
    · obtain rfl := Hat.out.addr (by omega)
      obtain ⟨s, hx⟩ : ∃ s, im.segs[k]? = some s := ⟨_, List.getElem?_eq_getElem hlt⟩
      obtain ⟨c, g0, g1, g2, g3, hc⟩ := (Hat.out.below hbel).seg4 k s hx
      obtain ⟨ca, cc, rfl⟩ := hc.form
      have hr := Hr.out s (List.mem_of_getElem? hx)
      have Hdc := Lib.hid (drop_cons im.segs k s hx)
      have hcm := hc.max
      clear hbel hse hx hc hq
      by_cases hg : SegGood e s
      · have Hn : Hid (segsFrom 0 im.segs = segsFrom (upL (s.at_ + s.size)) (im.segs.drop (k + 1))) := Lib.hid (by rw [Hse.out, Hdc.out, segsFrom_good hg])
        obtain ⟨h1, h2, h3, h4, h5, h6, h7, h8, h9⟩ := hg
        have Hu : Hid (s.at_ + (s.size + 64 - 1) / 64 * 64 = upL (s.at_ + s.size)) := Lib.hid (by unfold upL; omega)
        have hu0 : 0 ≤ upL (s.at_ + s.size) := by unfold upL; omega
        have hu1 : upL (s.at_ + s.size) ≤ 200000 := by unfold upL; omega
        have hm : (s.at_ % 64 != 0) = false := by rw [bne_eq_false_iff_eq]; exact h4
        clear h4
        have Hu0 := Lib.hid hu0
        have Hu1 := Lib.hid hu1
        clear hu0 hu1
        generalize s.at_ = sat at *
        generalize s.size = ssz at *
        generalize s.perm = spm at *
        go_wp2
        go_roundw
        case rel => exact ⟨k + 1, _, by go_num, by omega, by rw [← Hu.out], Hu0.out, Hu1.out, Hn.out, Hbel.out.alloc hBr _, by rw [World.cell?_alloc_lt _ _ _ hzq]; exact Hq.out, by simp; omega⟩
        case measure => simp [intOf]; omega
      · have Hn : Hid (segsB im.segs = false) := Lib.hid (by rw [Hd.out, Hse.out, Hdc.out, segsFrom_bad hg]; simp)
        have Hg : Hid (¬ (e ≤ s.at_ ∧ 0 ≤ s.at_ ∧ s.at_ ≤ 65536 ∧ s.at_ % 64 = 0 ∧ 1 ≤ s.size ∧ s.at_ + s.size ≤ 65536 ∧ (s.bytes.length : Int) ≤ s.size ∧ 0 ≤ s.perm ∧ s.perm ≤ 7)) := Lib.hid hg
        clear hg
        generalize s.at_ = sat at *
        generalize s.size = ssz at *
        generalize s.perm = spm at *
        by_cases h1 : e ≤ sat
        · go_wp2
          all_goals first
            | (go_ret; exact ⟨by rw [Hn.out]; rfl, Hbel.out.alloc hBr _⟩)
            | (exfalso; have := Hg.out; (try simp only [beq_eq_false_iff_ne, bne_eq_false_iff_eq, bne_iff_ne, beq_iff_eq, ne_eq] at *); omega)
        · go_wp2
          go_ret
          exact ⟨by rw [Hn.out]; rfl, Hbel.out.alloc hBr _⟩
    · have Hn : Hid (segsFrom 0 im.segs = true) := Lib.hid (by rw [hse, List.drop_eq_nil_of_le (by omega)]; rfl)
      clear hse hbel
      by_cases h1 : 1 ≤ im.segs.length
      · have hd1 : decide (1 ≤ (im.segs.length : Int)) = true := by rw [decide_eq_true_eq]; omega
        go_wp2
        go_ret
        exact ⟨ret_bool' (by rw [Hd.out, Hn.out, Bool.eq_iff_iff]; simp [h1]; omega), Hbel.out⟩
      · have hd1 : decide (1 ≤ (im.segs.length : Int)) = false := by rw [decide_eq_false_iff_not]; omega
        go_wp2
        go_ret
        exact ⟨ret_bool' (by rw [Hd.out]; simp [h1]), Hbel.out⟩

end Go.Proofs.Ytbliedldlimpgaa

namespace Go.Proofs.Ytbliedldlimpgaa
set_option linter.unusedVariables false
set_option linter.unusedSimpArgs false
open Go.RowKit

theorem symsFrom_bad {segs : List SegL} {tls : Int} {done : List SymL} {s : SymL} {l : List SymL} (h : symB segs tls s = false) : symsFrom segs tls done (s :: l) = false := by rw [symsFrom, h]; rfl
theorem symsFrom_clash {segs : List SegL} {tls : Int} {done : List SymL} {s : SymL} {l : List SymL} {q : Nat} {t : SymL} (ht : done[q]? = some t) (h : clashB s t = true) : symsFrom segs tls done (s :: l) = false := by
  have : (done.all fun t => !clashB s t) = false := by rw [List.all_eq_false]; exact ⟨t, List.mem_of_getElem? ht, by simp [h]⟩
  rw [symsFrom, this]; simp
theorem symsFrom_ok {segs : List SegL} {tls : Int} {done : List SymL} {s : SymL} {l : List SymL} (h : symB segs tls s = true) (h2 : (done.all fun t => !clashB s t) = true) : symsFrom segs tls done (s :: l) = symsFrom segs tls (done ++ [s]) l := by rw [symsFrom, h, h2]; rfl
theorem take_snoc {α : Type} (l : List α) (k : Nat) (x : α) (hx : l[k]? = some x) : l.take (k + 1) = l.take k ++ [x] := by
  obtain ⟨h, rfl⟩ := List.getElem?_eq_some_iff.1 hx
  rw [List.take_succ_eq_append_getElem h]
theorem symB_right {segs : List SegL} {tls : Int} {s : SymL} (h : symRightB s = false) : symB segs tls s = false := by rw [symB, h]; rfl
theorem symB_free {segs : List SegL} {tls : Int} {s : SymL} (h : symRightB s = true) (hd : s.defined = false) : symB segs tls s = true := by rw [symB, h, hd]; rfl
theorem symB_tls {segs : List SegL} {tls : Int} {s : SymL} (h : symRightB s = true) (hd : s.defined = true) (hk : s.kind = 3) : symB segs tls s = (decide (s.size ≤ tls) && decide (s.value ≤ tls - s.size)) := by rw [symB, h, hd, if_pos hk]; rfl
theorem symB_holds {segs : List SegL} {tls : Int} {s : SymL} (h : symRightB s = true) (hd : s.defined = true) (hk : s.kind ≠ 3) : symB segs tls s = holdsB segs s.value s.size 0 := by rw [symB, h, hd, if_neg hk]; rfl
theorem right_nums {s : SymL} (h : symRightB s = true) : 0 ≤ s.value ∧ 0 ≤ s.size := by
  simp only [symRightB, Bool.and_eq_true, decide_eq_true_eq] at h; omega
/-- the cells of a symbol that was loaded into a variable -/
abbrev symArr (s : SymL) : Array Value := #[.string ⟨s.name.toArray⟩, .string ⟨s.version.toArray⟩, .bool s.old, .int .i64 s.kind, .bool s.weak, .int .i64 s.vis, .bool s.defined, .int .i64 s.value, .int .i64 s.size]
set_option maxHeartbeats 16000000 in
set_option maxRecDepth 100000 in
theorem isyms_any (w : World) (v : ImgV) (im : ImgL) (hs : LB kSeg (· < w.heap.size) w v.segs im.segs) (hok : ∀ s ∈ im.segs, SegOk s) (hy : LB kSym (· < w.heap.size) w v.syms im.syms) (ht : 0 ≤ im.tlsSize ∧ im.tlsSize ≤ 4096) :
    Calls Try.prog 22 #[.agg (imgCells v im)] w fun e w' => e = .returned (.bool (symsB im)) ∧ Below w.heap.size w w' := by
  obtain ⟨sa, sb, soff, scap, hsv, hsm, hsc, hat⟩ := hy.at
  obtain ⟨vsegs, vneeded, vrunPath, vsyms, vbuckets, vwords, vrelocs, vslots, vinit, vfini, vtls⟩ := v
  simp only at hsv
  subst hsv
  have HH : Hid (∀ (w' : World) (x n : Int), Below w.heap.size w w' → (-9223372036854775808 ≤ x ∧ x ≤ 9223372036854775807) → (0 ≤ n ∧ n ≤ 9223372036854775807) →
    Calls Try.prog 59 #[.agg (imgCells ⟨vsegs, vneeded, vrunPath, .slice sa im.syms.length scap, vbuckets, vwords, vrelocs, vslots, vinit, vfini, vtls⟩ im), .agg #[.int .i64 x, .int .i64 n, .int .i64 0]] w' fun e w'' => e = .returned (.bool (holdsB im.segs x n 0)) ∧ Below w'.heap.size w' w'') := Lib.hid (fun w' x n hb hx hn => holds_any w' _ im x n 0 ((hs.below hb).mono hb.size) hok hx hn (by decide))
  unfold imgCells at *
  have Hat := Lib.hid hat
  have HD : Hid (symsB im = (decide (im.syms.length ≤ 512) && symsFrom im.segs im.tlsSize [] im.syms)) := Lib.hid rfl
  clear hs hok hat hy
  generalize hI : (Array.mk [.string ⟨im.name.toArray⟩, .int .i64 im.flags, vsegs, vneeded, vrunPath, .slice sa im.syms.length scap, vbuckets, vwords, .int .i64 im.shift, vrelocs, vslots, vinit, vfini, vtls, .int .i64 im.tlsSize] : Array Value) = I at HH
  have F0 := Lib.hid (heap_alloc_new w (.cells I 38 (0, 0)))
  have B1 := Lib.hid ((Below.refl w.heap.size w).alloc (Nat.le_refl _) (.cells I 38 (0, 0)))
  subst hI
  by_cases h5 : im.syms.length ≤ 512
  case neg =>
    have Hn : Hid (symsB im = false) := Lib.hid (by rw [HD.out, decide_eq_false (p := im.syms.length ≤ 512) h5]; rfl)
    have h6 : 512 < im.syms.length := by omega
    go_enter Try.func22, Try.ntmps22
    go_wp2
    go_ret
    exact ⟨by rw [Hn.out]; rfl, B1.out⟩
  have h6 : ¬ 512 < im.syms.length := by omega
  have Hse : Hid (symsB im = symsFrom im.segs im.tlsSize [] im.syms) := Lib.hid (by rw [HD.out, decide_eq_true (p := im.syms.length ≤ 512) h5]; rfl)
  clear HD
  go_enter Try.func22, Try.ntmps22
  go_wp2_with fail
  go_loopw [14] (fun i wr => ∃ (k : Nat), i = .int .i64 k ∧ k ≤ im.syms.length ∧ symsB im = symsFrom im.segs im.tlsSize (im.syms.take k) (im.syms.drop k) ∧ Below w.heap.size w wr ∧
    wr.heap[w.heap.size]? = some (.cells #[.string ⟨im.name.toArray⟩, .int .i64 im.flags, vsegs, vneeded, vrunPath, .slice sa im.syms.length scap, vbuckets, vwords, .int .i64 im.shift, vrelocs, vslots, vinit, vfini, vtls, .int .i64 im.tlsSize] 38 (0, 0)) ∧ w.heap.size < wr.heap.size) (fun i _ => im.syms.length - (intOf i).toNat)
  case atStart => exact ⟨0, rfl, Nat.zero_le _, by rw [Hse.out]; simp, B1.out, F0.out, by simp⟩
  case round =>
    obtain ⟨k, rfl, hk, hse, hbel, hF, hzq⟩ := hrel
    have Hse2 := Lib.hid hse
    have Hbel := Lib.hid hbel
    have HF := Lib.hid hF
    have hBr := hbel.size
    clear hse Hse
    by_cases hlt : k < im.syms.length
    · obtain rfl := Hat.out.addr (by omega)
      obtain ⟨s, hx⟩ : ∃ s, im.syms[k]? = some s := ⟨_, List.getElem?_eq_getElem hlt⟩
      obtain ⟨hso, g0, g1, g2, g3, g4, g5, g6, g7, g8⟩ := (Hat.out.below hbel).sym9 k s hx
      have Hdc := Lib.hid (drop_cons im.syms k s hx)
      have Htk := Lib.hid (take_snoc im.syms k s hx)
      have Hso := Lib.hid hso
      have hsb := World.block_lt_of_cell? _ _ g0
      have HRt := Lib.hid (fun w => vright_any w s hso)
      have HBs := Lib.hid (Hbel.out.alloc hBr (.cells (symArr s) 54 (0, 0)))
      have HFs := Lib.hid (heap_alloc_new wr (.cells (symArr s) 54 (0, 0)))
      have HFi := Lib.hid ((heap_alloc_old wr (.cells (symArr s) 54 (0, 0)) hzq).trans hF)
      unfold symArr at *
      clear hx hso hbel hF HF Hbel
      go_upto_block 2 with fail
      have hz1 : (wr.alloc (.cells #[.string ⟨s.name.toArray⟩, .string ⟨s.version.toArray⟩, .bool s.old, .int .i64 s.kind, .bool s.weak, .int .i64 s.vis, .bool s.defined, .int .i64 s.value, .int .i64 s.size] 54 (0, 0))).heap.size = wr.heap.size + 1 := by simp
      generalize wr.alloc (.cells #[.string ⟨s.name.toArray⟩, .string ⟨s.version.toArray⟩, .bool s.old, .int .i64 s.kind, .bool s.weak, .int .i64 s.vis, .bool s.defined, .int .i64 s.value, .int .i64 s.size] 54 (0, 0)) = w1 at *
      clear g0 g1 g2 g3 g4 g5 g6 g7 g8
      go_cut [3] (fun s3 wx => s3 = .int .i64 k ∧ symB im.segs im.tlsSize s = true ∧ Below w1.heap.size w1 wx)
      case first =>
        obtain ⟨c0, c1, c2, c3, c4, c5, c6, c7, c8⟩ := sym_cells HFs.out
        go_wp2_with fail
        refine (HRt.out w1).mono ?_
        rintro e w2 ⟨rfl, hb2⟩
        have hz2 := hb2.size
        have HFs2 := Lib.hid ((hb2.block wr.heap.size (by omega)).trans HFs.out)
        have HFi2 := Lib.hid ((hb2.block w.heap.size (by omega)).trans HFi.out)
        have HBs2 := Lib.hid (HBs.out.trans (hb2.mono (by omega)))
        have Hb2 := Lib.hid hb2
        clear hb2 c0 c1 c2 c3 c4 c5 c6 c7 c8 HRt
        cases hrt : symRightB s with
        | false =>
          have Hn : Hid (symsB im = false) := Lib.hid (by rw [Hse2.out, Hdc.out, symsFrom_bad (symB_right hrt)])
          rw [rightErr_bad hrt]
          clear hrt
          go_wp2
          go_ret
          exact ⟨by rw [Hn.out]; rfl, HBs2.out⟩
        | true =>
          have hnum := right_nums hrt
          have Hrt := Lib.hid hrt
          rw [rightErr_ok hrt]
          clear hrt
          obtain ⟨c0, c1, c2, c3, c4, c5, c6, c7, c8⟩ := sym_cells HFs2.out
          cases hd : s.defined with
          | false =>
            rw [hd] at c6
            have Hy := Lib.hid (symB_free (segs := im.segs) (tls := im.tlsSize) Hrt.out hd)
            clear hd
            go_wp2_with fail
            go_meet
            exact ⟨rfl, Hy.out, Hb2.out⟩
          | true =>
            rw [hd] at c6
            have Hdd := Lib.hid hd
            clear hd
            by_cases hk3 : s.kind = 3
            · have Hy := Lib.hid (symB_tls (segs := im.segs) (tls := im.tlsSize) Hrt.out Hdd.out hk3)
              obtain ⟨i0, i1, i2, i3, i4, i5, i6, i7, i8, i9, i10, i11, i12, i13, i14⟩ := img_cells HFi2.out
              have hbk : (s.kind == 3) = true := by rw [beq_iff_eq]; exact hk3
              have hso1 := Hso.out.value
              have hso2 := Hso.out.size
              clear i0 i1 i2 i3 i4 i5 i6 i7 i8 i9 i10 i11 i12 i13 hk3
              by_cases hA : s.size ≤ im.tlsSize
              · by_cases hB : s.value ≤ im.tlsSize - s.size
                · have Hy2 : Hid (symB im.segs im.tlsSize s = true) := Lib.hid (by rw [Hy.out]; simp [hA, hB])
                  have hA2 : ¬ im.tlsSize < s.size := by omega
                  have hB2 : ¬ im.tlsSize - s.size < s.value := by omega
                  go_wp2_with fail
                  go_meet
                  exact ⟨rfl, Hy2.out, Hb2.out⟩
                · have Hn : Hid (symsB im = false) := Lib.hid (by rw [Hse2.out, Hdc.out, symsFrom_bad (by rw [Hy.out]; simp [hB])])
                  have hA2 : ¬ im.tlsSize < s.size := by omega
                  have hB2 : im.tlsSize - s.size < s.value := by omega
                  go_wp2
                  go_ret
                  exact ⟨by rw [Hn.out]; rfl, HBs2.out⟩
              · have Hn : Hid (symsB im = false) := Lib.hid (by rw [Hse2.out, Hdc.out, symsFrom_bad (by rw [Hy.out]; simp [hA])])
                have hA2 : im.tlsSize < s.size := by omega
                go_wp2
                go_ret
                exact ⟨by rw [Hn.out]; rfl, HBs2.out⟩
            · have Hy := Lib.hid (symB_holds (segs := im.segs) (tls := im.tlsSize) Hrt.out Hdd.out hk3)
              obtain ⟨i0, i1, i2, i3, i4, i5, i6, i7, i8, i9, i10, i11, i12, i13, i14⟩ := img_cells HFi2.out
              have hbk : (s.kind == 3) = false := by rw [beq_eq_false_iff_ne]; exact hk3
              have HHx := Lib.hid (HH.out w2 s.value s.size (HBs2.out) Hso.out.value ⟨hnum.2, Hso.out.size.2⟩)
              go_wp2_with fail
              refine HHx.out.mono ?_
              rintro e w3 ⟨rfl, hb3⟩
              have Hb3 := Lib.hid hb3
              clear hb3 i0 i1 i2 i3 i4 i5 i6 i7 i8 i9 i10 i11 i12 i13 i14 HHx
              cases hh : holdsB im.segs s.value s.size 0 with
              | true =>
                have Hy2 : Hid (symB im.segs im.tlsSize s = true) := Lib.hid (by rw [Hy.out, hh])
                clear hh
                go_wp2_with fail
                go_meet
                exact ⟨rfl, Hy2.out, Hb2.out.trans (Hb3.out.mono (by omega))⟩
              | false =>
                have Hn : Hid (symsB im = false) := Lib.hid (by rw [Hse2.out, Hdc.out, symsFrom_bad (by rw [Hy.out, hh])])
                clear hh
                go_wp2
                go_ret
                exact ⟨by rw [Hn.out]; rfl, HBs2.out.trans (Hb3.out.mono (by omega))⟩
      case rest =>
        obtain ⟨rfl, hyb, hbc⟩ := hcut
        have Hyb := Lib.hid hyb
        have hzc := hbc.size
        have hFic := (hbc.block w.heap.size (by omega)).trans HFi.out
        obtain ⟨i0, i1, i2, i3, i4, i5, i6, i7, i8, i9, i10, i11, i12, i13, i14⟩ := img_cells hFic
        have Hbc := Lib.hid hbc
        clear hyb hbc hFic i0 i1 i2 i3 i4 i6 i7 i8 i9 i10 i11 i12 i13 i14 HRt
        generalize wr.heap.size = zr at *
        go_wp2_with fail
        go_loopw [60] (fun i wi => ∃ (q : Nat), i = .int .i64 q ∧ q ≤ k ∧ (im.syms.take q).all (fun t => !clashB s t) = true ∧ Below w1.heap.size w1 wi) (fun i _ => k - (intOf i).toNat)
        case atStart => exact ⟨0, rfl, Nat.zero_le _, rfl, Hbc.out⟩
        case round =>
          obtain ⟨q, rfl, hq, hall, hbi⟩ := hrel
          have Hall := Lib.hid hall
          have Hbi := Lib.hid hbi
          have hzi := hbi.size
          clear hall
          by_cases hlt2 : q < k
          · obtain ⟨t, hxt⟩ : ∃ t, im.syms[q]? = some t := ⟨_, List.getElem?_eq_getElem (by omega)⟩
            obtain ⟨_, g0, g1, g2, g3, g4, g5, g6, g7, g8⟩ := (Hat.out.below (HBs.out.trans (hbi.mono (by omega)))).sym9 q t hxt
            have Hsq := Lib.hid (all_take_snoc (fun t => !clashB s t) im.syms q t hxt)
            have Hcl := Lib.hid (fun h => symsFrom_clash (segs := im.segs) (tls := im.tlsSize) (done := im.syms.take k) (s := s) (l := im.syms.drop (k + 1)) (q := q) (t := t) (by rw [List.getElem?_take]; simp [hlt2, hxt]) h)
            obtain ⟨c0, c1, c2, c3, c4, c5, c6, c7, c8⟩ := sym_cells ((hbi.block zr (by omega)).trans HFs.out)
            have hsbw := World.block_lt_of_cell? _ _ g0
            have hsw := World.block_lt_of_cell? _ _ c0
            have Hbt := Lib.hid (hbi.alloc hzi (.cells #[.string ⟨t.name.toArray⟩, .string ⟨t.version.toArray⟩, .bool t.old, .int .i64 t.kind, .bool t.weak, .int .i64 t.vis, .bool t.defined, .int .i64 t.value, .int .i64 t.size] 54 (0, 0)))
            have cs0 := (World.cell?_alloc_lt wr (.cells #[.string ⟨t.name.toArray⟩, .string ⟨t.version.toArray⟩, .bool t.old, .int .i64 t.kind, .bool t.weak, .int .i64 t.vis, .bool t.defined, .int .i64 t.value, .int .i64 t.size] 54 (0, 0)) ⟨zr, 0, none⟩ hsw).trans c0
            have cs1 := (World.cell?_alloc_lt wr (.cells #[.string ⟨t.name.toArray⟩, .string ⟨t.version.toArray⟩, .bool t.old, .int .i64 t.kind, .bool t.weak, .int .i64 t.vis, .bool t.defined, .int .i64 t.value, .int .i64 t.size] 54 (0, 0)) ⟨zr, 1, none⟩ hsw).trans c1
            have cs2 := (World.cell?_alloc_lt wr (.cells #[.string ⟨t.name.toArray⟩, .string ⟨t.version.toArray⟩, .bool t.old, .int .i64 t.kind, .bool t.weak, .int .i64 t.vis, .bool t.defined, .int .i64 t.value, .int .i64 t.size] 54 (0, 0)) ⟨zr, 2, none⟩ hsw).trans c2
            have cs6 := (World.cell?_alloc_lt wr (.cells #[.string ⟨t.name.toArray⟩, .string ⟨t.version.toArray⟩, .bool t.old, .int .i64 t.kind, .bool t.weak, .int .i64 t.vis, .bool t.defined, .int .i64 t.value, .int .i64 t.size] 54 (0, 0)) ⟨zr, 6, none⟩ hsw).trans c6
            clear hxt hbi Hbi c0 c1 c2 c3 c4 c5 c6 c7 c8
            go_upto_region 17 with fail
            have HFt := heap_alloc_new wr (.cells #[.string ⟨t.name.toArray⟩, .string ⟨t.version.toArray⟩, .bool t.old, .int .i64 t.kind, .bool t.weak, .int .i64 t.vis, .bool t.defined, .int .i64 t.value, .int .i64 t.size] 54 (0, 0))
            generalize wr.alloc (.cells #[.string ⟨t.name.toArray⟩, .string ⟨t.version.toArray⟩, .bool t.old, .int .i64 t.kind, .bool t.weak, .int .i64 t.vis, .bool t.defined, .int .i64 t.value, .int .i64 t.size] 54 (0, 0)) = w5 at *
            obtain ⟨d0, d1, d2, d3, d4, d5, d6, d7, d8⟩ := sym_cells HFt
            clear HFt
            cases e1 : s.defined with
            | false =>
              rw [e1] at cs6
              have Hm : Hid (clashB s t = false) := Lib.hid (by unfold clashB; rw [e1]; rfl)
              have Hall2 : Hid ((im.syms.take (q + 1)).all (fun t => !clashB s t) = true) := Lib.hid (by rw [Hsq.out, Hall.out, Hm.out]; rfl)
              go_wp2
              go_roundw
              case rel => exact ⟨q + 1, by go_num, by omega, Hall2.out, Hbt.out⟩
              case measure => simp [intOf]; omega
            | true =>
            rw [e1] at cs6
            cases e2 : t.defined with
            | false =>
              rw [e2] at d6
              have Hm : Hid (clashB s t = false) := Lib.hid (by unfold clashB; rw [e1, e2]; rfl)
              have Hall2 : Hid ((im.syms.take (q + 1)).all (fun t => !clashB s t) = true) := Lib.hid (by rw [Hsq.out, Hall.out, Hm.out]; rfl)
              go_wp2
              go_roundw
              case rel => exact ⟨q + 1, by go_num, by omega, Hall2.out, Hbt.out⟩
              case measure => simp [intOf]; omega
            | true =>
            rw [e2] at d6
            by_cases e3 : s.name = t.name
            case neg =>
              have b3 : (s.name == t.name) = false := by rw [beq_eq_false_iff_ne]; exact e3
              have Hm : Hid (clashB s t = false) := Lib.hid (by unfold clashB; rw [decide_eq_false (p := s.name = t.name) e3]; simp)
              have Hall2 : Hid ((im.syms.take (q + 1)).all (fun t => !clashB s t) = true) := Lib.hid (by rw [Hsq.out, Hall.out, Hm.out]; rfl)
              go_wp2
              go_roundw
              case rel => exact ⟨q + 1, by go_num, by omega, Hall2.out, Hbt.out⟩
              case measure => simp [intOf]; omega
            have b3 : (s.name == t.name) = true := by rw [beq_iff_eq]; exact e3
            by_cases e4 : s.version = t.version
            case pos =>
              have b4 : (s.version == t.version) = true := by rw [beq_iff_eq]; exact e4
              have Hm : Hid (clashB s t = true) := Lib.hid (by unfold clashB; rw [e1, e2, decide_eq_true (p := s.name = t.name) e3, decide_eq_true (p := s.version = t.version) e4]; rfl)
              have Hn : Hid (symsB im = false) := Lib.hid (by rw [Hse2.out, Hdc.out, Hcl.out Hm.out])
              go_wp2
              go_ret
              exact ⟨by rw [Hn.out]; rfl, HBs.out.trans (Hbt.out.mono (by omega))⟩
            have b4 : (s.version == t.version) = false := by rw [beq_eq_false_iff_ne]; exact e4
            cases e5 : s.old with
            | true =>
              rw [e5] at cs2
              have Hm : Hid (clashB s t = false) := Lib.hid (by unfold clashB; rw [decide_eq_false (p := s.version = t.version) e4, e5]; simp)
              have Hall2 : Hid ((im.syms.take (q + 1)).all (fun t => !clashB s t) = true) := Lib.hid (by rw [Hsq.out, Hall.out, Hm.out]; rfl)
              go_wp2
              go_roundw
              case rel => exact ⟨q + 1, by go_num, by omega, Hall2.out, Hbt.out⟩
              case measure => simp [intOf]; omega
            | false =>
            rw [e5] at cs2
            cases e6 : t.old with
            | true =>
              rw [e6] at d2
              have Hm : Hid (clashB s t = false) := Lib.hid (by unfold clashB; rw [decide_eq_false (p := s.version = t.version) e4, e5, e6]; simp)
              have Hall2 : Hid ((im.syms.take (q + 1)).all (fun t => !clashB s t) = true) := Lib.hid (by rw [Hsq.out, Hall.out, Hm.out]; rfl)
              go_wp2
              go_roundw
              case rel => exact ⟨q + 1, by go_num, by omega, Hall2.out, Hbt.out⟩
              case measure => simp [intOf]; omega
            | false =>
              rw [e6] at d2
              have Hm : Hid (clashB s t = true) := Lib.hid (by unfold clashB; rw [e1, e2, decide_eq_true (p := s.name = t.name) e3, e5, e6]; simp)
              have Hn : Hid (symsB im = false) := Lib.hid (by rw [Hse2.out, Hdc.out, Hcl.out Hm.out])
              go_wp2
              go_ret
              exact ⟨by rw [Hn.out]; rfl, HBs.out.trans (Hbt.out.mono (by omega))⟩
          · have Hall2 : Hid ((im.syms.take k).all (fun t => !clashB s t) = true) := Lib.hid (by have := Hall.out; rwa [show q = k by omega] at this)
            have Hse3 : Hid (symsB im = symsFrom im.segs im.tlsSize (im.syms.take (k + 1)) (im.syms.drop (k + 1))) := Lib.hid (by rw [Hse2.out, Hdc.out, symsFrom_ok Hyb.out Hall2.out, Htk.out])
            have hFi3 := (hbi.block w.heap.size (by omega)).trans HFi.out
            clear hbi
            go_wp2
            go_roundw
            case rel => exact ⟨k + 1, by go_num, by omega, Hse3.out, HBs.out.trans (Hbi.out.mono (by omega)), hFi3, by omega⟩
            case measure => simp [intOf]; omega
    · have hd : Hid (symsB im = true) := Lib.hid (by rw [Hse2.out, List.drop_eq_nil_of_le (by omega)]; rfl)
      clear hbel hF
      go_wp2
      go_ret
      exact ⟨by rw [hd.out]; rfl, Hbel.out⟩

end Go.Proofs.Ytbliedldlimpgaa

namespace Go.Proofs.Ytbliedldlimpgaa
set_option linter.unusedVariables false
set_option linter.unusedSimpArgs false
open Go.RowKit

/-- may a relocation be, but for the size of what it adds? -/
def relocR (im : ImgL) (r : RelL) : Bool :=
  if r.kind = 1 then decide (r.sym = -1) && decide (0 ≤ r.add) && decide (r.add ≤ 65536) && holdsB im.segs r.at_ 8 0
  else match symAt im r.sym with
    | none => false
    | some s =>
      (if r.kind = 0 ∨ r.kind = 6 then decide (s.kind ≠ 3) && holdsB im.segs r.at_ 8 0
       else if r.kind = 7 then decide (r.add = 0) && holdsB im.segs r.at_ 8 0
       else if r.kind = 3 then decide (s.kind = 3) && decide (r.add = 0) && holdsB im.segs r.at_ 8 0
       else if r.kind = 4 ∨ r.kind = 5 then decide (s.kind = 3) && holdsB im.segs r.at_ 8 0
       else if r.kind = 2 then decide (s.kind = 2) && s.defined && decide (1 ≤ s.size) && decide (s.value = r.at_) && decide (im.flags % 2 = 1) && decide (r.add = 0) && holdsB im.segs r.at_ s.size 2
       else false)
theorem relocB_R (im : ImgL) (r : RelL) : relocB im r = ((decide (-4294967296 ≤ r.add) && decide (r.add ≤ 4294967296)) && relocR im r) := by
  unfold relocB relocR
  by_cases h1 : r.kind = 1
  · rw [if_pos h1, if_pos h1, Bool.eq_iff_iff]
    simp only [Bool.and_eq_true, decide_eq_true_eq]
    constructor
    · intro h; exact ⟨by omega, h⟩
    · intro h; exact h.2
  · rw [if_neg h1, if_neg h1]
    cases symAt im r.sym <;> simp
theorem relocR_none {im : ImgL} {r : RelL} (h1 : r.kind ≠ 1) (h : symAt im r.sym = none) : relocR im r = false := by rw [relocR, if_neg h1, h]
theorem flags_bit (f : Int) (h0 : 0 ≤ f) (h1 : f < 16) : (bits BinOp.and .i64 f 1 != 0) = decide (f % 2 = 1) := by
  obtain ⟨n, rfl⟩ : ∃ n : Nat, f = n := ⟨f.toNat, by omega⟩
  have h : ∀ m : Nat, m < 16 → (bits BinOp.and .i64 (m : Int) 1 != 0) = decide ((m : Int) % 2 = 1) := by decide +kernel
  exact h n (by omega)
set_option maxHeartbeats 16000000 in
set_option maxRecDepth 100000 in
theorem ireloc_any (w : World) (v : ImgV) (im : ImgL) (r : RelL) (hs : LB kSeg (· < w.heap.size) w v.segs im.segs) (hok : ∀ s ∈ im.segs, SegOk s) (hy : LB kSym (· < w.heap.size) w v.syms im.syms) (hfl : 0 ≤ im.flags ∧ im.flags < 16)
    (hrs : -9223372036854775808 ≤ r.sym ∧ r.sym ≤ 9223372036854775807) (hra : -9223372036854775808 ≤ r.at_ ∧ r.at_ ≤ 9223372036854775807) (hsz : ∀ s ∈ im.syms, s.size ≤ 9223372036854775807) :
    Calls Try.prog 67 #[.agg (imgCells v im), .agg #[.int .i64 r.at_, .int .i64 r.kind, .int .i64 r.sym, .int .i64 r.add]] w fun e w' => e = .returned (.bool (relocR im r)) ∧ Below w.heap.size w w' := by
  obtain ⟨vsegs, vneeded, vrunPath, vsyms, vbuckets, vwords, vrelocs, vslots, vinit, vfini, vtls⟩ := v
  have HH : Hid (∀ (w' : World) (x n p : Int), Below w.heap.size w w' → (-9223372036854775808 ≤ x ∧ x ≤ 9223372036854775807) → (0 ≤ n ∧ n ≤ 9223372036854775807) → p = 0 ∨ p = 2 ∨ p = 4 →
    Calls Try.prog 59 #[.agg (imgCells ⟨vsegs, vneeded, vrunPath, vsyms, vbuckets, vwords, vrelocs, vslots, vinit, vfini, vtls⟩ im), .agg #[.int .i64 x, .int .i64 n, .int .i64 p]] w' fun e w'' => e = .returned (.bool (holdsB im.segs x n p)) ∧ Below w'.heap.size w' w'') := Lib.hid (fun w' x n p hb hx hn hp => holds_any w' _ im x n p ((hs.below hb).mono hb.size) hok hx hn hp)
  have HS : Hid (∀ (w' : World), Below w.heap.size w w' → Calls Try.prog 69 #[.agg (imgCells ⟨vsegs, vneeded, vrunPath, vsyms, vbuckets, vwords, vrelocs, vslots, vinit, vfini, vtls⟩ im), .int .i64 r.sym] w' fun e w'' => e = .returned (symV im r.sym) ∧ Below w'.heap.size w' w'') := Lib.hid (fun w' hb => isym_any w' _ im r.sym ((hy.below hb).mono hb.size) hrs)
  unfold imgCells at *
  have Hfl := Lib.hid (flags_bit im.flags hfl.1 hfl.2)
  have Hsz := Lib.hid hsz
  clear hs hok hy hfl hsz
  generalize hI : (Array.mk [.string ⟨im.name.toArray⟩, .int .i64 im.flags, vsegs, vneeded, vrunPath, vsyms, vbuckets, vwords, .int .i64 im.shift, vrelocs, vslots, vinit, vfini, vtls, .int .i64 im.tlsSize] : Array Value) = I at HH HS
  have F0 := Lib.hid (heap_alloc_new w (.cells I 38 (0, 0)))
  have B1 := Lib.hid (((Below.refl w.heap.size w).alloc (Nat.le_refl _) (.cells I 38 (0, 0))).alloc (by simp) (.cells #[.int .i64 r.at_, .int .i64 r.kind, .int .i64 r.sym, .int .i64 r.add] 57 (0, 0)))
  have G0 := Lib.hid (heap_alloc_new (w.alloc (.cells I 38 (0, 0))) (.cells #[.int .i64 r.at_, .int .i64 r.kind, .int .i64 r.sym, .int .i64 r.add] 57 (0, 0)))
  have F1 := Lib.hid ((heap_alloc_old (w.alloc (.cells I 38 (0, 0))) (.cells #[.int .i64 r.at_, .int .i64 r.kind, .int .i64 r.sym, .int .i64 r.add] 57 (0, 0)) (by simp)).trans F0.out)
  have hz1 : ((w.alloc (.cells I 38 (0, 0))).alloc (.cells #[.int .i64 r.at_, .int .i64 r.kind, .int .i64 r.sym, .int .i64 r.add] 57 (0, 0))).heap.size = w.heap.size + 2 := by simp
  rw [World.size_alloc] at G0
  subst hI
  go_enter Try.func67, Try.ntmps67
  go_wp2_with fail
  generalize (w.alloc (.cells #[.string ⟨im.name.toArray⟩, .int .i64 im.flags, vsegs, vneeded, vrunPath, vsyms, vbuckets, vwords, .int .i64 im.shift, vrelocs, vslots, vinit, vfini, vtls, .int .i64 im.tlsSize] 38 (0, 0))).alloc (.cells #[.int .i64 r.at_, .int .i64 r.kind, .int .i64 r.sym, .int .i64 r.add] 57 (0, 0)) = w1 at *
  refine (HS.out w1 B1.out).mono ?_
  rintro e w2 ⟨rfl, hb2⟩
  have hz2 := hb2.size
  have G2 := Lib.hid ((hb2.block (w.heap.size + 1) (by omega)).trans G0.out)
  have F2 := Lib.hid ((hb2.block w.heap.size (by omega)).trans F1.out)
  have B2 := Lib.hid (B1.out.trans (hb2.mono (by omega)))
  clear hb2 F0 G0 F1 B1 HS
  cases hsa : symAt im r.sym with
  | none =>
    have hv : symV im r.sym = .tuple #[.agg #[.string ⟨#[]⟩, .string ⟨#[]⟩, .bool false, .int .i64 0, .bool false, .int .i64 0, .bool false, .int .i64 0, .int .i64 0], .bool false] := by rw [symV, symD, hsa]; rfl
    rw [hv]
    have Hsa := Lib.hid hsa
    clear hv hsa
    have G3 := (heap_alloc_old w2 (.cells #[.string ⟨#[]⟩, .string ⟨#[]⟩, .bool false, .int .i64 0, .bool false, .int .i64 0, .bool false, .int .i64 0, .int .i64 0] 54 (0, 0)) (r := w.heap.size + 1) (by omega)).trans G2.out
    have F3 := (heap_alloc_old w2 (.cells #[.string ⟨#[]⟩, .string ⟨#[]⟩, .bool false, .int .i64 0, .bool false, .int .i64 0, .bool false, .int .i64 0, .int .i64 0] 54 (0, 0)) (r := w.heap.size) (by omega)).trans F2.out
    have B3 := Lib.hid (B2.out.alloc (by omega) (.cells #[.string ⟨#[]⟩, .string ⟨#[]⟩, .bool false, .int .i64 0, .bool false, .int .i64 0, .bool false, .int .i64 0, .int .i64 0] 54 (0, 0)))
    have t1 : w2.cell? ⟨w.heap.size + 1, 1, none⟩ = some (.int .i64 r.kind) := by rw [Lib.cell_of_heap G2.out]; rfl
    have hzt : w.heap.size + 1 < w2.heap.size := by omega
    go_upto_block 0 with fail
    have hz3 : (w2.alloc (.cells #[.string ⟨#[]⟩, .string ⟨#[]⟩, .bool false, .int .i64 0, .bool false, .int .i64 0, .bool false, .int .i64 0, .int .i64 0] 54 (0, 0))).heap.size = w2.heap.size + 1 := by simp
    generalize w2.alloc (.cells #[.string ⟨#[]⟩, .string ⟨#[]⟩, .bool false, .int .i64 0, .bool false, .int .i64 0, .bool false, .int .i64 0, .int .i64 0] 54 (0, 0)) = w3 at *
    have r0 : w3.cell? ⟨w.heap.size + 1, 0, none⟩ = some (.int .i64 r.at_) := by rw [Lib.cell_of_heap G3]; rfl
    have r1 : w3.cell? ⟨w.heap.size + 1, 1, none⟩ = some (.int .i64 r.kind) := by rw [Lib.cell_of_heap G3]; rfl
    have r2 : w3.cell? ⟨w.heap.size + 1, 2, none⟩ = some (.int .i64 r.sym) := by rw [Lib.cell_of_heap G3]; rfl
    have r3 : w3.cell? ⟨w.heap.size + 1, 3, none⟩ = some (.int .i64 r.add) := by rw [Lib.cell_of_heap G3]; rfl
    obtain ⟨i0, i1, i2, i3, i4, i5, i6, i7, i8, i9, i10, i11, i12, i13, i14⟩ := img_cells F3
    clear F3 G3 F2 G2 B2
    by_cases k1 : r.kind = 1
    case neg =>
      have b1 : (r.kind == 1) = false := by rw [beq_eq_false_iff_ne]; exact k1
      have Hr := Lib.hid (relocR_none (im := im) k1 Hsa.out)
      go_wp2
      all_goals go_ret
      all_goals exact ⟨by rw [Hr.out]; rfl, B3.out⟩
    case pos =>
      have b1 : (r.kind == 1) = true := by rw [beq_iff_eq]; exact k1
      have HR : Hid (relocR im r = (decide (r.sym = -1) && decide (0 ≤ r.add) && decide (r.add ≤ 65536) && holdsB im.segs r.at_ 8 0)) := Lib.hid (by rw [relocR, if_pos k1])
      by_cases p0 : r.sym = -1
      case neg =>
        have q0 : (r.sym == -1) = false := by rw [beq_eq_false_iff_ne]; assumption
        have Hr : Hid (relocR im r = false) := Lib.hid (by rw [HR.out, decide_eq_false (p := r.sym = -1) p0]; simp)
        go_wp2
        go_ret
        exact ⟨by rw [Hr.out]; rfl, B3.out⟩
      have q0 : (r.sym == -1) = true := by rw [beq_iff_eq]; assumption
      by_cases p1 : 0 ≤ r.add
      case neg =>
        have q1 : decide (0 ≤ r.add) = false := by rw [decide_eq_false_iff_not]; assumption
        have Hr : Hid (relocR im r = false) := Lib.hid (by rw [HR.out, decide_eq_false (p := 0 ≤ r.add) p1]; simp)
        go_wp2
        go_ret
        exact ⟨by rw [Hr.out]; rfl, B3.out⟩
      have q1 : decide (0 ≤ r.add) = true := by rw [decide_eq_true_eq]; assumption
      by_cases p2 : r.add ≤ 65536
      case neg =>
        have q2 : decide (r.add ≤ 65536) = false := by rw [decide_eq_false_iff_not]; assumption
        have Hr : Hid (relocR im r = false) := Lib.hid (by rw [HR.out, decide_eq_false (p := r.add ≤ 65536) p2]; simp)
        go_wp2
        go_ret
        exact ⟨by rw [Hr.out]; rfl, B3.out⟩
      have q2 : decide (r.add ≤ 65536) = true := by rw [decide_eq_true_eq]; assumption
      have Hr : Hid (relocR im r = holdsB im.segs r.at_ 8 0) := Lib.hid (by rw [HR.out, decide_eq_true (p := r.sym = -1) p0, decide_eq_true (p := 0 ≤ r.add) p1, decide_eq_true (p := r.add ≤ 65536) p2]; simp)
      have Hh := Lib.hid (HH.out w3 r.at_ 8 0 B3.out hra (by decide) (by decide))
      go_wp2_with fail
      refine Hh.out.mono ?_
      rintro e w4 ⟨rfl, hb4⟩
      have B4 := Lib.hid (B3.out.trans (hb4.mono (by omega)))
      clear hb4 i0 i1 i2 i3 i4 i5 i6 i7 i8 i9 i10 i11 i12 i13 i14 r0 r1 r2 r3
      go_wp2
      go_ret
      exact ⟨by rw [Hr.out]; rfl, B4.out⟩
  | some s =>
    have hv : symV im r.sym = .tuple #[.agg #[.string ⟨s.name.toArray⟩, .string ⟨s.version.toArray⟩, .bool s.old, .int .i64 s.kind, .bool s.weak, .int .i64 s.vis, .bool s.defined, .int .i64 s.value, .int .i64 s.size], .bool true] := by rw [symV, symD, hsa]; rfl
    rw [hv]
    have Hsa := Lib.hid hsa
    have hsz := Hsz.out s (symAt_range hsa).2.2
    clear hv hsa
    have S3 := heap_alloc_new w2 (.cells #[.string ⟨s.name.toArray⟩, .string ⟨s.version.toArray⟩, .bool s.old, .int .i64 s.kind, .bool s.weak, .int .i64 s.vis, .bool s.defined, .int .i64 s.value, .int .i64 s.size] 54 (0, 0))
    have G3 := (heap_alloc_old w2 (.cells #[.string ⟨s.name.toArray⟩, .string ⟨s.version.toArray⟩, .bool s.old, .int .i64 s.kind, .bool s.weak, .int .i64 s.vis, .bool s.defined, .int .i64 s.value, .int .i64 s.size] 54 (0, 0)) (r := w.heap.size + 1) (by omega)).trans G2.out
    have F3 := (heap_alloc_old w2 (.cells #[.string ⟨s.name.toArray⟩, .string ⟨s.version.toArray⟩, .bool s.old, .int .i64 s.kind, .bool s.weak, .int .i64 s.vis, .bool s.defined, .int .i64 s.value, .int .i64 s.size] 54 (0, 0)) (r := w.heap.size) (by omega)).trans F2.out
    have B3 := Lib.hid (B2.out.alloc (by omega) (.cells #[.string ⟨s.name.toArray⟩, .string ⟨s.version.toArray⟩, .bool s.old, .int .i64 s.kind, .bool s.weak, .int .i64 s.vis, .bool s.defined, .int .i64 s.value, .int .i64 s.size] 54 (0, 0)))
    have t1 : w2.cell? ⟨w.heap.size + 1, 1, none⟩ = some (.int .i64 r.kind) := by rw [Lib.cell_of_heap G2.out]; rfl
    have hzt : w.heap.size + 1 < w2.heap.size := by omega
    go_upto_block 0 with fail
    have hz3 : (w2.alloc (.cells #[.string ⟨s.name.toArray⟩, .string ⟨s.version.toArray⟩, .bool s.old, .int .i64 s.kind, .bool s.weak, .int .i64 s.vis, .bool s.defined, .int .i64 s.value, .int .i64 s.size] 54 (0, 0))).heap.size = w2.heap.size + 1 := by simp
    generalize w2.alloc (.cells #[.string ⟨s.name.toArray⟩, .string ⟨s.version.toArray⟩, .bool s.old, .int .i64 s.kind, .bool s.weak, .int .i64 s.vis, .bool s.defined, .int .i64 s.value, .int .i64 s.size] 54 (0, 0)) = w3 at *
    have r0 : w3.cell? ⟨w.heap.size + 1, 0, none⟩ = some (.int .i64 r.at_) := by rw [Lib.cell_of_heap G3]; rfl
    have r1 : w3.cell? ⟨w.heap.size + 1, 1, none⟩ = some (.int .i64 r.kind) := by rw [Lib.cell_of_heap G3]; rfl
    have r2 : w3.cell? ⟨w.heap.size + 1, 2, none⟩ = some (.int .i64 r.sym) := by rw [Lib.cell_of_heap G3]; rfl
    have r3 : w3.cell? ⟨w.heap.size + 1, 3, none⟩ = some (.int .i64 r.add) := by rw [Lib.cell_of_heap G3]; rfl
    obtain ⟨i0, i1, i2, i3, i4, i5, i6, i7, i8, i9, i10, i11, i12, i13, i14⟩ := img_cells F3
    obtain ⟨c0, c1, c2, c3, c4, c5, c6, c7, c8⟩ := sym_cells S3
    clear F3 G3 F2 G2 B2 S3
    by_cases k1 : r.kind = 1
    case pos =>
      have b1 : (r.kind == 1) = true := by rw [beq_iff_eq]; exact k1
      have HR : Hid (relocR im r = (decide (r.sym = -1) && decide (0 ≤ r.add) && decide (r.add ≤ 65536) && holdsB im.segs r.at_ 8 0)) := Lib.hid (by rw [relocR, if_pos k1])
      by_cases p0 : r.sym = -1
      case neg =>
        have q0 : (r.sym == -1) = false := by rw [beq_eq_false_iff_ne]; assumption
        have Hr : Hid (relocR im r = false) := Lib.hid (by rw [HR.out, decide_eq_false (p := r.sym = -1) p0]; simp)
        go_wp2
        go_ret
        exact ⟨by rw [Hr.out]; rfl, B3.out⟩
      have q0 : (r.sym == -1) = true := by rw [beq_iff_eq]; assumption
      by_cases p1 : 0 ≤ r.add
      case neg =>
        have q1 : decide (0 ≤ r.add) = false := by rw [decide_eq_false_iff_not]; assumption
        have Hr : Hid (relocR im r = false) := Lib.hid (by rw [HR.out, decide_eq_false (p := 0 ≤ r.add) p1]; simp)
        go_wp2
        go_ret
        exact ⟨by rw [Hr.out]; rfl, B3.out⟩
      have q1 : decide (0 ≤ r.add) = true := by rw [decide_eq_true_eq]; assumption
      by_cases p2 : r.add ≤ 65536
      case neg =>
        have q2 : decide (r.add ≤ 65536) = false := by rw [decide_eq_false_iff_not]; assumption
        have Hr : Hid (relocR im r = false) := Lib.hid (by rw [HR.out, decide_eq_false (p := r.add ≤ 65536) p2]; simp)
        go_wp2
        go_ret
        exact ⟨by rw [Hr.out]; rfl, B3.out⟩
      have q2 : decide (r.add ≤ 65536) = true := by rw [decide_eq_true_eq]; assumption
      have Hr : Hid (relocR im r = holdsB im.segs r.at_ 8 0) := Lib.hid (by rw [HR.out, decide_eq_true (p := r.sym = -1) p0, decide_eq_true (p := 0 ≤ r.add) p1, decide_eq_true (p := r.add ≤ 65536) p2]; simp)
      have Hh := Lib.hid (HH.out w3 r.at_ 8 0 B3.out hra (by decide) (by decide))
      go_wp2_with fail
      refine Hh.out.mono ?_
      rintro e w4 ⟨rfl, hb4⟩
      have B4 := Lib.hid (B3.out.trans (hb4.mono (by omega)))
      clear hb4 i0 i1 i2 i3 i4 i5 i6 i7 i8 i9 i10 i11 i12 i13 i14 r0 r1 r2 r3
      go_wp2
      go_ret
      exact ⟨by rw [Hr.out]; rfl, B4.out⟩
    have b1 : (r.kind == 1) = false := by rw [beq_eq_false_iff_ne]; exact k1
    by_cases k0 : r.kind = 0
    case pos =>
      have b0 : (r.kind == 0) = true := by rw [beq_iff_eq]; exact k0
      have HR : Hid (relocR im r = (decide (s.kind ≠ 3) && holdsB im.segs r.at_ 8 0)) := Lib.hid (by rw [relocR, if_neg k1, Hsa.out]; simp only []; rw [if_pos (Or.inl k0)])
      by_cases p0 : s.kind ≠ 3
      case neg =>
        have q0 : (s.kind == 3) = true := by rw [beq_iff_eq]; exact Decidable.byContradiction p0
        have Hr : Hid (relocR im r = false) := Lib.hid (by rw [HR.out, decide_eq_false (p := s.kind ≠ 3) p0]; simp)
        go_wp2
        go_ret
        exact ⟨by rw [Hr.out]; rfl, B3.out⟩
      have q0 : (s.kind == 3) = false := by rw [beq_eq_false_iff_ne]; assumption
      have Hr : Hid (relocR im r = holdsB im.segs r.at_ 8 0) := Lib.hid (by rw [HR.out, decide_eq_true (p := s.kind ≠ 3) p0]; simp)
      have Hh := Lib.hid (HH.out w3 r.at_ 8 0 B3.out hra (by decide) (by decide))
      go_wp2_with fail
      refine Hh.out.mono ?_
      rintro e w4 ⟨rfl, hb4⟩
      have B4 := Lib.hid (B3.out.trans (hb4.mono (by omega)))
      clear hb4 i0 i1 i2 i3 i4 i5 i6 i7 i8 i9 i10 i11 i12 i13 i14 r0 r1 r2 r3
      go_wp2
      go_ret
      exact ⟨by rw [Hr.out]; rfl, B4.out⟩
    have b0 : (r.kind == 0) = false := by rw [beq_eq_false_iff_ne]; exact k0
    by_cases k6 : r.kind = 6
    case pos =>
      have b6 : (r.kind == 6) = true := by rw [beq_iff_eq]; exact k6
      have HR : Hid (relocR im r = (decide (s.kind ≠ 3) && holdsB im.segs r.at_ 8 0)) := Lib.hid (by rw [relocR, if_neg k1, Hsa.out]; simp only []; rw [if_pos (Or.inr k6)])
      by_cases p0 : s.kind ≠ 3
      case neg =>
        have q0 : (s.kind == 3) = true := by rw [beq_iff_eq]; exact Decidable.byContradiction p0
        have Hr : Hid (relocR im r = false) := Lib.hid (by rw [HR.out, decide_eq_false (p := s.kind ≠ 3) p0]; simp)
        go_wp2
        go_ret
        exact ⟨by rw [Hr.out]; rfl, B3.out⟩
      have q0 : (s.kind == 3) = false := by rw [beq_eq_false_iff_ne]; assumption
      have Hr : Hid (relocR im r = holdsB im.segs r.at_ 8 0) := Lib.hid (by rw [HR.out, decide_eq_true (p := s.kind ≠ 3) p0]; simp)
      have Hh := Lib.hid (HH.out w3 r.at_ 8 0 B3.out hra (by decide) (by decide))
      go_wp2_with fail
      refine Hh.out.mono ?_
      rintro e w4 ⟨rfl, hb4⟩
      have B4 := Lib.hid (B3.out.trans (hb4.mono (by omega)))
      clear hb4 i0 i1 i2 i3 i4 i5 i6 i7 i8 i9 i10 i11 i12 i13 i14 r0 r1 r2 r3
      go_wp2
      go_ret
      exact ⟨by rw [Hr.out]; rfl, B4.out⟩
    have b6 : (r.kind == 6) = false := by rw [beq_eq_false_iff_ne]; exact k6
    by_cases k7 : r.kind = 7
    case pos =>
      have b7 : (r.kind == 7) = true := by rw [beq_iff_eq]; exact k7
      have HR : Hid (relocR im r = (decide (r.add = 0) && holdsB im.segs r.at_ 8 0)) := Lib.hid (by rw [relocR, if_neg k1, Hsa.out]; simp only []; rw [if_neg (by omega), if_pos k7])
      by_cases p0 : r.add = 0
      case neg =>
        have q0 : (r.add == 0) = false := by rw [beq_eq_false_iff_ne]; assumption
        have Hr : Hid (relocR im r = false) := Lib.hid (by rw [HR.out, decide_eq_false (p := r.add = 0) p0]; simp)
        go_wp2
        go_ret
        exact ⟨by rw [Hr.out]; rfl, B3.out⟩
      have q0 : (r.add == 0) = true := by rw [beq_iff_eq]; assumption
      have Hr : Hid (relocR im r = holdsB im.segs r.at_ 8 0) := Lib.hid (by rw [HR.out, decide_eq_true (p := r.add = 0) p0]; simp)
      have Hh := Lib.hid (HH.out w3 r.at_ 8 0 B3.out hra (by decide) (by decide))
      go_wp2_with fail
      refine Hh.out.mono ?_
      rintro e w4 ⟨rfl, hb4⟩
      have B4 := Lib.hid (B3.out.trans (hb4.mono (by omega)))
      clear hb4 i0 i1 i2 i3 i4 i5 i6 i7 i8 i9 i10 i11 i12 i13 i14 r0 r1 r2 r3
      go_wp2
      go_ret
      exact ⟨by rw [Hr.out]; rfl, B4.out⟩
    have b7 : (r.kind == 7) = false := by rw [beq_eq_false_iff_ne]; exact k7
    by_cases k3 : r.kind = 3
    case pos =>
      have b3 : (r.kind == 3) = true := by rw [beq_iff_eq]; exact k3
      have HR : Hid (relocR im r = (decide (s.kind = 3) && decide (r.add = 0) && holdsB im.segs r.at_ 8 0)) := Lib.hid (by rw [relocR, if_neg k1, Hsa.out]; simp only []; rw [if_neg (by omega), if_neg (by omega), if_pos k3])
      by_cases p0 : s.kind = 3
      case neg =>
        have q0 : (s.kind == 3) = false := by rw [beq_eq_false_iff_ne]; assumption
        have Hr : Hid (relocR im r = false) := Lib.hid (by rw [HR.out, decide_eq_false (p := s.kind = 3) p0]; simp)
        go_wp2
        go_ret
        exact ⟨by rw [Hr.out]; rfl, B3.out⟩
      have q0 : (s.kind == 3) = true := by rw [beq_iff_eq]; assumption
      by_cases p1 : r.add = 0
      case neg =>
        have q1 : (r.add == 0) = false := by rw [beq_eq_false_iff_ne]; assumption
        have Hr : Hid (relocR im r = false) := Lib.hid (by rw [HR.out, decide_eq_false (p := r.add = 0) p1]; simp)
        go_wp2
        go_ret
        exact ⟨by rw [Hr.out]; rfl, B3.out⟩
      have q1 : (r.add == 0) = true := by rw [beq_iff_eq]; assumption
      have Hr : Hid (relocR im r = holdsB im.segs r.at_ 8 0) := Lib.hid (by rw [HR.out, decide_eq_true (p := s.kind = 3) p0, decide_eq_true (p := r.add = 0) p1]; simp)
      have Hh := Lib.hid (HH.out w3 r.at_ 8 0 B3.out hra (by decide) (by decide))
      go_wp2_with fail
      refine Hh.out.mono ?_
      rintro e w4 ⟨rfl, hb4⟩
      have B4 := Lib.hid (B3.out.trans (hb4.mono (by omega)))
      clear hb4 i0 i1 i2 i3 i4 i5 i6 i7 i8 i9 i10 i11 i12 i13 i14 r0 r1 r2 r3
      go_wp2
      go_ret
      exact ⟨by rw [Hr.out]; rfl, B4.out⟩
    have b3 : (r.kind == 3) = false := by rw [beq_eq_false_iff_ne]; exact k3
    by_cases k4 : r.kind = 4
    case pos =>
      have b4 : (r.kind == 4) = true := by rw [beq_iff_eq]; exact k4
      have HR : Hid (relocR im r = (decide (s.kind = 3) && holdsB im.segs r.at_ 8 0)) := Lib.hid (by rw [relocR, if_neg k1, Hsa.out]; simp only []; rw [if_neg (by omega), if_neg (by omega), if_neg (by omega), if_pos (Or.inl k4)])
      by_cases p0 : s.kind = 3
      case neg =>
        have q0 : (s.kind == 3) = false := by rw [beq_eq_false_iff_ne]; assumption
        have Hr : Hid (relocR im r = false) := Lib.hid (by rw [HR.out, decide_eq_false (p := s.kind = 3) p0]; simp)
        go_wp2
        go_ret
        exact ⟨by rw [Hr.out]; rfl, B3.out⟩
      have q0 : (s.kind == 3) = true := by rw [beq_iff_eq]; assumption
      have Hr : Hid (relocR im r = holdsB im.segs r.at_ 8 0) := Lib.hid (by rw [HR.out, decide_eq_true (p := s.kind = 3) p0]; simp)
      have Hh := Lib.hid (HH.out w3 r.at_ 8 0 B3.out hra (by decide) (by decide))
      go_wp2_with fail
      refine Hh.out.mono ?_
      rintro e w4 ⟨rfl, hb4⟩
      have B4 := Lib.hid (B3.out.trans (hb4.mono (by omega)))
      clear hb4 i0 i1 i2 i3 i4 i5 i6 i7 i8 i9 i10 i11 i12 i13 i14 r0 r1 r2 r3
      go_wp2
      go_ret
      exact ⟨by rw [Hr.out]; rfl, B4.out⟩
    have b4 : (r.kind == 4) = false := by rw [beq_eq_false_iff_ne]; exact k4
    by_cases k5 : r.kind = 5
    case pos =>
      have b5 : (r.kind == 5) = true := by rw [beq_iff_eq]; exact k5
      have HR : Hid (relocR im r = (decide (s.kind = 3) && holdsB im.segs r.at_ 8 0)) := Lib.hid (by rw [relocR, if_neg k1, Hsa.out]; simp only []; rw [if_neg (by omega), if_neg (by omega), if_neg (by omega), if_pos (Or.inr k5)])
      by_cases p0 : s.kind = 3
      case neg =>
        have q0 : (s.kind == 3) = false := by rw [beq_eq_false_iff_ne]; assumption
        have Hr : Hid (relocR im r = false) := Lib.hid (by rw [HR.out, decide_eq_false (p := s.kind = 3) p0]; simp)
        go_wp2
        go_ret
        exact ⟨by rw [Hr.out]; rfl, B3.out⟩
      have q0 : (s.kind == 3) = true := by rw [beq_iff_eq]; assumption
      have Hr : Hid (relocR im r = holdsB im.segs r.at_ 8 0) := Lib.hid (by rw [HR.out, decide_eq_true (p := s.kind = 3) p0]; simp)
      have Hh := Lib.hid (HH.out w3 r.at_ 8 0 B3.out hra (by decide) (by decide))
      go_wp2_with fail
      refine Hh.out.mono ?_
      rintro e w4 ⟨rfl, hb4⟩
      have B4 := Lib.hid (B3.out.trans (hb4.mono (by omega)))
      clear hb4 i0 i1 i2 i3 i4 i5 i6 i7 i8 i9 i10 i11 i12 i13 i14 r0 r1 r2 r3
      go_wp2
      go_ret
      exact ⟨by rw [Hr.out]; rfl, B4.out⟩
    have b5 : (r.kind == 5) = false := by rw [beq_eq_false_iff_ne]; exact k5
    by_cases k2 : r.kind = 2
    case pos =>
      have b2 : (r.kind == 2) = true := by rw [beq_iff_eq]; exact k2
      have _bt : (s.kind == 3) = (s.kind == 3) := rfl
      have HR : Hid (relocR im r = (decide (s.kind = 2) && s.defined && decide (1 ≤ s.size) && decide (s.value = r.at_) && decide (im.flags % 2 = 1) && decide (r.add = 0) && holdsB im.segs r.at_ s.size 2)) := Lib.hid (by rw [relocR, if_neg k1, Hsa.out]; simp only []; rw [if_neg (by omega), if_neg (by omega), if_neg (by omega), if_neg (by omega), if_pos k2])
      by_cases p0 : s.kind = 2
      case neg =>
        have q0 : (s.kind == 2) = false := by rw [beq_eq_false_iff_ne]; assumption
        have Hr : Hid (relocR im r = false) := Lib.hid (by rw [HR.out, decide_eq_false (p := s.kind = 2) p0]; simp)
        go_wp2
        go_ret
        exact ⟨by rw [Hr.out]; rfl, B3.out⟩
      have q0 : (s.kind == 2) = true := by rw [beq_iff_eq]; assumption
      cases hd : s.defined with
      | false =>
        rw [hd] at c6
        have Hr : Hid (relocR im r = false) := Lib.hid (by rw [HR.out, hd]; simp)
        clear hd
        go_wp2
        go_ret
        exact ⟨by rw [Hr.out]; rfl, B3.out⟩
      | true =>
      rw [hd] at c6
      have Hd2 := Lib.hid hd
      clear hd
      by_cases p2 : 1 ≤ s.size
      case neg =>
        have q2 : decide (1 ≤ s.size) = false := by rw [decide_eq_false_iff_not]; assumption
        have Hr : Hid (relocR im r = false) := Lib.hid (by rw [HR.out, decide_eq_false (p := 1 ≤ s.size) p2]; simp)
        go_wp2
        go_ret
        exact ⟨by rw [Hr.out]; rfl, B3.out⟩
      have q2 : decide (1 ≤ s.size) = true := by rw [decide_eq_true_eq]; assumption
      by_cases p3 : s.value = r.at_
      case neg =>
        have q3 : (s.value == r.at_) = false := by rw [beq_eq_false_iff_ne]; assumption
        have Hr : Hid (relocR im r = false) := Lib.hid (by rw [HR.out, decide_eq_false (p := s.value = r.at_) p3]; simp)
        go_wp2
        go_ret
        exact ⟨by rw [Hr.out]; rfl, B3.out⟩
      have q3 : (s.value == r.at_) = true := by rw [beq_iff_eq]; assumption
      by_cases p4 : im.flags % 2 = 1
      case neg =>
        have q4 : (bits BinOp.and .i64 im.flags 1 != 0) = false := by rw [Hfl.out, decide_eq_false_iff_not]; assumption
        have Hr : Hid (relocR im r = false) := Lib.hid (by rw [HR.out, decide_eq_false (p := im.flags % 2 = 1) p4]; simp)
        go_wp2
        go_ret
        exact ⟨by rw [Hr.out]; rfl, B3.out⟩
      have q4 : (bits BinOp.and .i64 im.flags 1 != 0) = true := by rw [Hfl.out, decide_eq_true_eq]; assumption
      by_cases p5 : r.add = 0
      case neg =>
        have q5 : (r.add == 0) = false := by rw [beq_eq_false_iff_ne]; assumption
        have Hr : Hid (relocR im r = false) := Lib.hid (by rw [HR.out, decide_eq_false (p := r.add = 0) p5]; simp)
        go_wp2
        go_ret
        exact ⟨by rw [Hr.out]; rfl, B3.out⟩
      have q5 : (r.add == 0) = true := by rw [beq_iff_eq]; assumption
      have Hr : Hid (relocR im r = holdsB im.segs r.at_ s.size 2) := Lib.hid (by rw [HR.out, decide_eq_true (p := s.kind = 2) p0, Hd2.out, decide_eq_true (p := 1 ≤ s.size) p2, decide_eq_true (p := s.value = r.at_) p3, decide_eq_true (p := im.flags % 2 = 1) p4, decide_eq_true (p := r.add = 0) p5]; simp)
      have Hh := Lib.hid (HH.out w3 r.at_ s.size 2 B3.out hra ⟨by omega, hsz⟩ (by decide))
      clear Hd2
      go_wp2_with fail
      refine Hh.out.mono ?_
      rintro e w4 ⟨rfl, hb4⟩
      have B4 := Lib.hid (B3.out.trans (hb4.mono (by omega)))
      clear hb4 i0 i1 i2 i3 i4 i5 i6 i7 i8 i9 i10 i11 i12 i13 i14 r0 r1 r2 r3
      go_wp2
      go_ret
      exact ⟨by rw [Hr.out]; rfl, B4.out⟩
    have b2 : (r.kind == 2) = false := by rw [beq_eq_false_iff_ne]; exact k2
    have Hr : Hid (relocR im r = false) := Lib.hid (by rw [relocR, if_neg k1, Hsa.out]; simp only []; rw [if_neg (by omega), if_neg (by omega), if_neg (by omega), if_neg (by omega), if_neg (by omega)])
    go_wp2
    go_ret
    exact ⟨by rw [Hr.out]; rfl, B3.out⟩

end Go.Proofs.Ytbliedldlimpgaa

namespace Go.Proofs.Ytbliedldlimpgaa
set_option linter.unusedVariables false
set_option linter.unusedSimpArgs false
open Go.RowKit

/-- a relocation's numbers are Go's -/
def RelOk (r : RelL) : Prop := (-9223372036854775808 ≤ r.sym ∧ r.sym ≤ 9223372036854775807) ∧ (-9223372036854775808 ≤ r.at_ ∧ r.at_ ≤ 9223372036854775807) ∧ (-9223372036854775808 ≤ r.add ∧ r.add ≤ 9223372036854775807)
theorem segOk_of {im : ImgL} (h : segsB im.segs = true) : ∀ s ∈ im.segs, SegOk s := fun s hs => by
  have := segs_good h s hs; unfold SegOk; omega
theorem relocsFrom_low {im : ImgL} {e : Int} {r : RelL} {l : List RelL} (h : ¬ e ≤ r.at_) : relocsFrom im e (r :: l) = false := by rw [relocsFrom, decide_eq_false (p := e ≤ r.at_) h]; rfl
theorem relocsFrom_bad {im : ImgL} {e : Int} {r : RelL} {l : List RelL} (h : relocB im r = false) : relocsFrom im e (r :: l) = false := by rw [relocsFrom, h]; simp
theorem relocsFrom_ok {im : ImgL} {e : Int} {r : RelL} {l : List RelL} (h : e ≤ r.at_) (h2 : relocB im r = true) : relocsFrom im e (r :: l) = relocsFrom im (r.at_ + wideL im r) l := by rw [relocsFrom, h2, decide_eq_true (p := e ≤ r.at_) h]; rfl
abbrev relArr (r : RelL) : Array Value := #[.int .i64 r.at_, .int .i64 r.kind, .int .i64 r.sym, .int .i64 r.add]

set_option maxHeartbeats 16000000 in
set_option maxRecDepth 100000 in
theorem irelocs_any (w : World) (v : ImgV) (im : ImgL) (hs : LB kSeg (· < w.heap.size) w v.segs im.segs) (hg : segsB im.segs = true) (hy : LB kSym (· < w.heap.size) w v.syms im.syms) (hfl : 0 ≤ im.flags ∧ im.flags < 16)
    (hr : LB kRel (· < w.heap.size) w v.relocs im.relocs) (hrr : ∀ r ∈ im.relocs, RelOk r) (hsz : ∀ s ∈ im.syms, 0 ≤ s.size ∧ s.size ≤ 9223372036854775807) (hsl : im.syms.length ≤ 512) :
    Calls Try.prog 24 #[.agg (imgCells v im)] w fun e w' => e = .returned (.bool (relocsB im)) ∧ Below w.heap.size w w' := by
  obtain ⟨ra, rb, roff, rcap, hrv, hrm, hrc, hrat⟩ := hr.at
  obtain ⟨vsegs, vneeded, vrunPath, vsyms, vbuckets, vwords, vrelocs, vslots, vinit, vfini, vtls⟩ := v
  simp only at hrv
  subst hrv
  have HR : Hid (∀ (w' : World) (r : RelL), Below w.heap.size w w' → RelOk r →
    Calls Try.prog 67 #[.agg (imgCells ⟨vsegs, vneeded, vrunPath, vsyms, vbuckets, vwords, .slice ra im.relocs.length rcap, vslots, vinit, vfini, vtls⟩ im), .agg #[.int .i64 r.at_, .int .i64 r.kind, .int .i64 r.sym, .int .i64 r.add]] w' fun e w'' => e = .returned (.bool (relocR im r)) ∧ Below w'.heap.size w' w'') := Lib.hid (fun w' r hb hx => ireloc_any w' _ im r ((hs.below hb).mono hb.size) (segOk_of hg) ((hy.below hb).mono hb.size) hfl hx.1 hx.2.1 (fun s h => (hsz s h).2))
  have HW : Hid (∀ (w' : World) (r : RelL), Below w.heap.size w w' → RelOk r →
    Calls Try.prog 68 #[.agg (imgCells ⟨vsegs, vneeded, vrunPath, vsyms, vbuckets, vwords, .slice ra im.relocs.length rcap, vslots, vinit, vfini, vtls⟩ im), .agg #[.int .i64 r.at_, .int .i64 r.kind, .int .i64 r.sym, .int .i64 r.add]] w' fun e w'' => e = .returned (.int .i64 (wideL im r)) ∧ Below w'.heap.size w' w'') := Lib.hid (fun w' r hb hx => iwide_any w' _ im r ((hy.below hb).mono hb.size) hx.1)
  unfold imgCells at *
  have Hrat := Lib.hid hrat
  have Hrr := Lib.hid hrr
  have Hsz := Lib.hid hsz
  have HD : Hid (relocsB im = (decide (im.relocs.length ≤ 512) && relocsFrom im 0 im.relocs)) := Lib.hid rfl
  have Hg := Lib.hid hg
  clear hs hg hy hfl hr hrr hsz hrat
  generalize hI : (Array.mk [.string ⟨im.name.toArray⟩, .int .i64 im.flags, vsegs, vneeded, vrunPath, vsyms, vbuckets, vwords, .int .i64 im.shift, .slice ra im.relocs.length rcap, vslots, vinit, vfini, vtls, .int .i64 im.tlsSize] : Array Value) = I at HR HW
  have F0 := Lib.hid (heap_alloc_new w (.cells I 38 (0, 0)))
  have B1 := Lib.hid ((Below.refl w.heap.size w).alloc (Nat.le_refl _) (.cells I 38 (0, 0)))
  subst hI
  go_enter Try.func24, Try.ntmps24
  go_wp2_with fail
  go_loopw [3, 9] (fun e i wr => ∃ (k : Nat) (x : Int), i = .int .i64 k ∧ e = .int .i64 x ∧ 0 ≤ x ∧ x ≤ 65536 ∧ k ≤ im.relocs.length ∧ relocsFrom im 0 im.relocs = relocsFrom im x (im.relocs.drop k) ∧ Below w.heap.size w wr ∧
    wr.heap[w.heap.size]? = some (.cells #[.string ⟨im.name.toArray⟩, .int .i64 im.flags, vsegs, vneeded, vrunPath, vsyms, vbuckets, vwords, .int .i64 im.shift, .slice ra im.relocs.length rcap, vslots, vinit, vfini, vtls, .int .i64 im.tlsSize] 38 (0, 0)) ∧ w.heap.size < wr.heap.size) (fun _ i _ => im.relocs.length - (intOf i).toNat)
  case atStart => exact ⟨0, 0, rfl, rfl, by decide, by decide, Nat.zero_le _, by simp, B1.out, F0.out, by simp⟩
  case round =>
    obtain ⟨k, x, rfl, rfl, hx0, hx1, hk, hse, hbel, hF, hzq⟩ := hrel
    have Hse := Lib.hid hse
    have Hbel := Lib.hid hbel
    have HF := Lib.hid hF
    have hBr := hbel.size
    clear hse
    by_cases hlt : k < im.relocs.length
    · obtain rfl := Hrat.out.addr (by omega)
      obtain ⟨r, hx⟩ : ∃ r, im.relocs[k]? = some r := ⟨_, List.getElem?_eq_getElem hlt⟩
      obtain ⟨g0, g1, g2, g3⟩ := (Hrat.out.below hbel).rel4 k r hx
      have hro := Hrr.out r (List.mem_of_getElem? hx)
      have hro2 := hro.2
      have Hro := Lib.hid hro
      have Hdc := Lib.hid (drop_cons im.relocs k r hx)
      have hsb := World.block_lt_of_cell? _ _ g0
      have HFr := Lib.hid (heap_alloc_new wr (.cells (relArr r) 57 (0, 0)))
      have HFi := Lib.hid ((heap_alloc_old wr (.cells (relArr r) 57 (0, 0)) hzq).trans hF)
      have HBr := Lib.hid (Hbel.out.alloc hBr (.cells (relArr r) 57 (0, 0)))
      unfold relArr at *
      clear hx hbel hF HF Hbel hro
      go_upto_region 5 with fail
      have hz1 : (wr.alloc (.cells #[.int .i64 r.at_, .int .i64 r.kind, .int .i64 r.sym, .int .i64 r.add] 57 (0, 0))).heap.size = wr.heap.size + 1 := by simp
      generalize wr.alloc (.cells #[.int .i64 r.at_, .int .i64 r.kind, .int .i64 r.sym, .int .i64 r.add] 57 (0, 0)) = w1 at *
      have r0 : w1.cell? ⟨wr.heap.size, 0, none⟩ = some (.int .i64 r.at_) := by rw [Lib.cell_of_heap HFr.out]; rfl
      have r1 : w1.cell? ⟨wr.heap.size, 1, none⟩ = some (.int .i64 r.kind) := by rw [Lib.cell_of_heap HFr.out]; rfl
      have r2 : w1.cell? ⟨wr.heap.size, 2, none⟩ = some (.int .i64 r.sym) := by rw [Lib.cell_of_heap HFr.out]; rfl
      have r3 : w1.cell? ⟨wr.heap.size, 3, none⟩ = some (.int .i64 r.add) := by rw [Lib.cell_of_heap HFr.out]; rfl
      obtain ⟨i0, i1, i2, i3, i4, i5, i6, i7, i8, i9, i10, i11, i12, i13, i14⟩ := img_cells HFi.out
      clear g0 g1 g2 g3
      by_cases h1 : x ≤ r.at_
      case neg =>
        have Hn : Hid (relocsB im = false) := Lib.hid (by rw [HD.out, Hse.out, Hdc.out, relocsFrom_low h1]; simp)
        have hd : decide (r.at_ < x) = true := by rw [decide_eq_true_eq]; omega
        go_wp2
        go_ret
        exact ⟨by rw [Hn.out]; rfl, HBr.out⟩
      have hd : decide (r.at_ < x) = false := by rw [decide_eq_false_iff_not]; omega
      go_wp2_with fail
      refine (ismall_any w1 r.add).mono ?_
      rintro e w2 ⟨rfl, rfl⟩
      cases hsm : (decide (-4294967296 ≤ r.add) && decide (r.add ≤ 4294967296)) with
      | false =>
        have Hn : Hid (relocsB im = false) := Lib.hid (by rw [HD.out, Hse.out, Hdc.out, relocsFrom_bad (by rw [relocB_R, hsm]; rfl)]; simp)
        clear hsm
        go_wp2
        go_ret
        exact ⟨by rw [Hn.out]; rfl, HBr.out⟩
      | true =>
        have Hsm := Lib.hid hsm
        clear hsm
        go_wp2_with fail
        refine (HR.out w2 r HBr.out Hro.out).mono ?_
        rintro e w3 ⟨rfl, hb3⟩
        have hz3 := hb3.size
        have HB3 := Lib.hid (HBr.out.trans (hb3.mono (by omega)))
        have HF3 := Lib.hid ((hb3.block w.heap.size (by omega)).trans HFi.out)
        have HR3 := Lib.hid ((hb3.block wr.heap.size (by omega)).trans HFr.out)
        clear hb3 i0 i1 i2 i3 i4 i5 i6 i7 i8 i9 i10 i11 i12 i13 i14 r0 r1 r2 r3
        cases hrb : relocR im r with
        | false =>
          have Hn : Hid (relocsB im = false) := Lib.hid (by rw [HD.out, Hse.out, Hdc.out, relocsFrom_bad (by rw [relocB_R, hrb]; simp)]; simp)
          clear hrb
          go_wp2
          go_ret
          exact ⟨by rw [Hn.out]; rfl, HB3.out⟩
        | true =>
          have hgood : relocB im r = true := by rw [relocB_R, hrb, Hsm.out]; rfl
          have hrg := reloc_good Hg.out hsl hgood
          have Hnx : Hid (relocsFrom im 0 im.relocs = relocsFrom im (r.at_ + wideL im r) (im.relocs.drop (k + 1))) := Lib.hid (by rw [Hse.out, Hdc.out, relocsFrom_ok h1 hgood])
          have hw0 : 0 ≤ wideL im r := by
            unfold wideL
            split
            · rename_i s hs
              have := (Hsz.out s (symAt_range hs).2.2).1
              split <;> omega
            · omega
          obtain ⟨i0, i1, i2, i3, i4, i5, i6, i7, i8, i9, i10, i11, i12, i13, i14⟩ := img_cells HF3.out
          have r0 : w3.cell? ⟨wr.heap.size, 0, none⟩ = some (.int .i64 r.at_) := by rw [Lib.cell_of_heap HR3.out]; rfl
          have r1 : w3.cell? ⟨wr.heap.size, 1, none⟩ = some (.int .i64 r.kind) := by rw [Lib.cell_of_heap HR3.out]; rfl
          have r2 : w3.cell? ⟨wr.heap.size, 2, none⟩ = some (.int .i64 r.sym) := by rw [Lib.cell_of_heap HR3.out]; rfl
          have r3 : w3.cell? ⟨wr.heap.size, 3, none⟩ = some (.int .i64 r.add) := by rw [Lib.cell_of_heap HR3.out]; rfl
          have l0 := fun x : Later w3 => x.cell i0
          have l1 := fun x : Later w3 => x.cell i1
          have l2 := fun x : Later w3 => x.cell i2
          have l3 := fun x : Later w3 => x.cell i3
          have l4 := fun x : Later w3 => x.cell i4
          have l5 := fun x : Later w3 => x.cell i5
          have l6 := fun x : Later w3 => x.cell i6
          have l7 := fun x : Later w3 => x.cell i7
          have l8 := fun x : Later w3 => x.cell i8
          have l9 := fun x : Later w3 => x.cell i9
          have l10 := fun x : Later w3 => x.cell i10
          have l11 := fun x : Later w3 => x.cell i11
          have l12 := fun x : Later w3 => x.cell i12
          have l13 := fun x : Later w3 => x.cell i13
          have l14 := fun x : Later w3 => x.cell i14
          have m0 := fun x : Later w3 => x.cell r0
          have m1 := fun x : Later w3 => x.cell r1
          have m2 := fun x : Later w3 => x.cell r2
          have m3 := fun x : Later w3 => x.cell r3
          clear hrb hgood i0 i1 i2 i3 i4 i5 i6 i7 i8 i9 i10 i11 i12 i13 i14 r0 r1 r2 r3
          obtain ⟨wd, hwd⟩ : ∃ wd, wideL im r = wd := ⟨_, rfl⟩
          have HWr := Lib.hid (fun w' hb => HW.out w' r hb Hro.out)
          rw [hwd] at HWr hrg hw0 Hnx
          clear hwd
          go_wp2_with fail
          refine wp_region_later (by kernel_rfl) (by kernel_rfl) ?_
          repeat (go_big_quiet_step (first | (go_at_call 68; refine Later.call _ (HWr.out _ ?_); exact HB3.out.trans ((Later.h _).mono (by omega)))))
          refine wpQuiet_nil ?_
          rintro _ ⟨⟨wq, hq⟩, rfl⟩
          try simp only at hq
          have Hq := Lib.hid hq
          clear hq l0 l1 l2 l3 l4 l5 l6 l7 l8 l9 l10 l11 l12 l13 l14 m0 m1 m2 m3
          go_wp2
          go_roundw
          case rel =>
            have hq := Hq.out
            have := hq.size
            exact ⟨k + 1, r.at_ + wd, by go_num, rfl, by omega, by omega, by omega, Hnx.out, HB3.out.trans (hq.mono (by omega)), (hq.block w.heap.size (by omega)).trans HF3.out, by omega⟩
          case measure => simp [intOf]; omega
    · obtain ⟨i0, i1, i2, i3, i4, i5, i6, i7, i8, i9, i10, i11, i12, i13, i14⟩ := img_cells hF
      have hd : Hid (relocsB im = decide (im.relocs.length ≤ 512)) := Lib.hid (by rw [HD.out, Hse.out, List.drop_eq_nil_of_le (by omega)]; simp [relocsFrom])
      clear hbel hF i0 i1 i2 i3 i4 i5 i6 i7 i8 i10 i11 i12 i13 i14
      go_wp2
      go_ret
      exact ⟨ret_bool' (by rw [hd.out, Bool.eq_iff_iff]; simp; omega), Hbel.out⟩

end Go.Proofs.Ytbliedldlimpgaa

namespace Go.Proofs.Ytbliedldlimpgaa
set_option linter.unusedVariables false
set_option linter.unusedSimpArgs false
open Go.RowKit

/-- a slot's number are Go's -/
def SlotOk (s : SlotL) : Prop := (-9223372036854775808 ≤ s.sym ∧ s.sym ≤ 9223372036854775807) ∧ (-9223372036854775808 ≤ s.at_ ∧ s.at_ ≤ 9223372036854775807) ∧ (-9223372036854775808 ≤ s.stub ∧ s.stub ≤ 9223372036854775807)
def meetB (im : ImgL) (s : SlotL) (r : RelL) : Bool := decide (r.at_ < s.at_ + 8) && decide (s.at_ < r.at_ + wideL im r)
theorem slotB_parts (im : ImgL) (s : SlotL) : slotB im s = ((match symAt im s.sym with
   | some x => decide (x.kind = 1)
   | none => false) && holdsB im.segs s.at_ 8 0 && holdsB im.segs s.stub 8 4 && im.relocs.all fun r => !meetB im s r) := rfl
theorem slotsFrom_low {im : ImgL} {e : Int} {s : SlotL} {l : List SlotL} (h : ¬ e ≤ s.at_) : slotsFrom im e (s :: l) = false := by rw [slotsFrom, decide_eq_false (p := e ≤ s.at_) h]; rfl
theorem slotsFrom_bad {im : ImgL} {e : Int} {s : SlotL} {l : List SlotL} (h : slotB im s = false) : slotsFrom im e (s :: l) = false := by rw [slotsFrom, h]; simp
theorem slotsFrom_ok {im : ImgL} {e : Int} {s : SlotL} {l : List SlotL} (h : e ≤ s.at_) (h2 : slotB im s = true) : slotsFrom im e (s :: l) = slotsFrom im (s.at_ + 8) l := by rw [slotsFrom, h2, decide_eq_true (p := e ≤ s.at_) h]; rfl
theorem slotB_none {im : ImgL} {s : SlotL} (h : symAt im s.sym = none) : slotB im s = false := by rw [slotB_parts, h]; rfl
theorem slotB_kind {im : ImgL} {s : SlotL} {x : SymL} (h : symAt im s.sym = some x) (hk : x.kind ≠ 1) : slotB im s = false := by rw [slotB_parts, h]; simp [hk]
theorem slotB_at {im : ImgL} {s : SlotL} (h : holdsB im.segs s.at_ 8 0 = false) : slotB im s = false := by rw [slotB_parts, h]; simp
theorem slotB_stub {im : ImgL} {s : SlotL} (h : holdsB im.segs s.stub 8 4 = false) : slotB im s = false := by rw [slotB_parts, h]; simp
theorem slotB_meet {im : ImgL} {s : SlotL} {r : RelL} {q : Nat} (hr : im.relocs[q]? = some r) (h : meetB im s r = true) : slotB im s = false := by
  have : (im.relocs.all fun r => !meetB im s r) = false := by rw [List.all_eq_false]; exact ⟨r, List.mem_of_getElem? hr, by simp [h]⟩
  rw [slotB_parts, this]; simp
theorem slotB_ok {im : ImgL} {s : SlotL} {x : SymL} (h : symAt im s.sym = some x) (hk : x.kind = 1) (h1 : holdsB im.segs s.at_ 8 0 = true) (h2 : holdsB im.segs s.stub 8 4 = true) (h3 : (im.relocs.all fun r => !meetB im s r) = true) : slotB im s = true := by
  rw [slotB_parts, h, h1, h2, h3]; simp [hk]

set_option maxHeartbeats 16000000 in
set_option maxRecDepth 100000 in
theorem islots_any (w : World) (v : ImgV) (im : ImgL) (hs : LB kSeg (· < w.heap.size) w v.segs im.segs) (hg : segsB im.segs = true) (hy : LB kSym (· < w.heap.size) w v.syms im.syms)
    (hr : LB kRel (· < w.heap.size) w v.relocs im.relocs) (hrr : ∀ r ∈ im.relocs, RelOk r) (hrel : relocsB im = true) (hsz : ∀ s ∈ im.syms, 0 ≤ s.size ∧ s.size ≤ 9223372036854775807) (hsl : im.syms.length ≤ 512)
    (ht : LB kSlot (· < w.heap.size) w v.slots im.slots) (hto : ∀ s ∈ im.slots, SlotOk s) :
    Calls Try.prog 25 #[.agg (imgCells v im)] w fun e w' => e = .returned (.bool (slotsB im)) ∧ Below w.heap.size w w' := by
  obtain ⟨ra, rb, roff, rcap, hrv, hrm, hrc, hrat⟩ := hr.at
  obtain ⟨ta, tb, toff, tcap, htv, htm, htc, htat⟩ := ht.at
  obtain ⟨vsegs, vneeded, vrunPath, vsyms, vbuckets, vwords, vrelocs, vslots, vinit, vfini, vtls⟩ := v
  simp only at hrv htv
  subst hrv htv
  have HH : Hid (∀ (w' : World) (x n p : Int), Below w.heap.size w w' → (-9223372036854775808 ≤ x ∧ x ≤ 9223372036854775807) → (0 ≤ n ∧ n ≤ 9223372036854775807) → p = 0 ∨ p = 2 ∨ p = 4 →
    Calls Try.prog 59 #[.agg (imgCells ⟨vsegs, vneeded, vrunPath, vsyms, vbuckets, vwords, .slice ra im.relocs.length rcap, .slice ta im.slots.length tcap, vinit, vfini, vtls⟩ im), .agg #[.int .i64 x, .int .i64 n, .int .i64 p]] w' fun e w'' => e = .returned (.bool (holdsB im.segs x n p)) ∧ Below w'.heap.size w' w'') := Lib.hid (fun w' x n p hb hx hn hp => holds_any w' _ im x n p ((hs.below hb).mono hb.size) (segOk_of hg) hx hn hp)
  have HS : Hid (∀ (w' : World) (i : Int), Below w.heap.size w w' → (-9223372036854775808 ≤ i ∧ i ≤ 9223372036854775807) → Calls Try.prog 69 #[.agg (imgCells ⟨vsegs, vneeded, vrunPath, vsyms, vbuckets, vwords, .slice ra im.relocs.length rcap, .slice ta im.slots.length tcap, vinit, vfini, vtls⟩ im), .int .i64 i] w' fun e w'' => e = .returned (symV im i) ∧ Below w'.heap.size w' w'') := Lib.hid (fun w' i hb hi => isym_any w' _ im i ((hy.below hb).mono hb.size) hi)
  have HW : Hid (∀ (w' : World) (r : RelL), Below w.heap.size w w' → RelOk r →
    Calls Try.prog 68 #[.agg (imgCells ⟨vsegs, vneeded, vrunPath, vsyms, vbuckets, vwords, .slice ra im.relocs.length rcap, .slice ta im.slots.length tcap, vinit, vfini, vtls⟩ im), .agg #[.int .i64 r.at_, .int .i64 r.kind, .int .i64 r.sym, .int .i64 r.add]] w' fun e w'' => e = .returned (.int .i64 (wideL im r)) ∧ Below w'.heap.size w' w'') := Lib.hid (fun w' r hb hx => iwide_any w' _ im r ((hy.below hb).mono hb.size) hx.1)
  unfold imgCells at *
  have Hrat := Lib.hid hrat
  have Htat := Lib.hid htat
  have Hrr := Lib.hid hrr
  have Hto := Lib.hid hto
  have Hsz := Lib.hid hsz
  have HD : Hid (slotsB im = (decide (im.slots.length ≤ 128) && slotsFrom im 0 im.slots)) := Lib.hid rfl
  have Hg := Lib.hid hg
  have Hrel : Hid (∀ r ∈ im.relocs, relocB im r = true) := Lib.hid (by
    have h := hrel
    simp only [relocsB, Bool.and_eq_true] at h
    exact relocsFrom_each im _ _ h.2)
  clear hs hg hy hr hrr hrel hsz ht hto hrat htat
  generalize hI : (Array.mk [.string ⟨im.name.toArray⟩, .int .i64 im.flags, vsegs, vneeded, vrunPath, vsyms, vbuckets, vwords, .int .i64 im.shift, .slice ra im.relocs.length rcap, .slice ta im.slots.length tcap, vinit, vfini, vtls, .int .i64 im.tlsSize] : Array Value) = I at HH HS HW
  have F0 := Lib.hid (heap_alloc_new w (.cells I 38 (0, 0)))
  have B1 := Lib.hid ((Below.refl w.heap.size w).alloc (Nat.le_refl _) (.cells I 38 (0, 0)))
  subst hI
  go_enter Try.func25, Try.ntmps25
  go_wp2_with fail
  go_loopw [3, 13] (fun e i wr => ∃ (k : Nat) (x : Int), i = .int .i64 k ∧ e = .int .i64 x ∧ 0 ≤ x ∧ x ≤ 100000 ∧ k ≤ im.slots.length ∧ slotsFrom im 0 im.slots = slotsFrom im x (im.slots.drop k) ∧ Below w.heap.size w wr ∧
    wr.heap[w.heap.size]? = some (.cells #[.string ⟨im.name.toArray⟩, .int .i64 im.flags, vsegs, vneeded, vrunPath, vsyms, vbuckets, vwords, .int .i64 im.shift, .slice ra im.relocs.length rcap, .slice ta im.slots.length tcap, vinit, vfini, vtls, .int .i64 im.tlsSize] 38 (0, 0)) ∧ w.heap.size < wr.heap.size) (fun _ i _ => im.slots.length - (intOf i).toNat)
  case atStart => exact ⟨0, 0, rfl, rfl, by decide, by decide, Nat.zero_le _, by simp, B1.out, F0.out, by simp⟩
  case round =>
    obtain ⟨k, x, rfl, rfl, hx0, hx1, hk, hse, hbel, hF, hzq⟩ := hrel
    have Hse := Lib.hid hse
    have Hbel := Lib.hid hbel
    have hBr := hbel.size
    clear hse
    by_cases hlt : k < im.slots.length
    · obtain rfl := Htat.out.addr (by omega)
      obtain ⟨s, hx⟩ : ∃ s, im.slots[k]? = some s := ⟨_, List.getElem?_eq_getElem hlt⟩
      obtain ⟨g0, g1, g2⟩ := (Htat.out.below hbel).slot3 k s hx
      have hso := Hto.out s (List.mem_of_getElem? hx)
      have hsa := hso.2.1
      have Hso := Lib.hid hso
      have Hdc := Lib.hid (drop_cons im.slots k s hx)
      have hsb := World.block_lt_of_cell? _ _ g0
      have HFs := Lib.hid (heap_alloc_new wr (.cells #[.int .i64 s.at_, .int .i64 s.sym, .int .i64 s.stub] 69 (0, 0)))
      have HFi := Lib.hid ((heap_alloc_old wr (.cells #[.int .i64 s.at_, .int .i64 s.sym, .int .i64 s.stub] 69 (0, 0)) hzq).trans hF)
      have HBs := Lib.hid (Hbel.out.alloc hBr (.cells #[.int .i64 s.at_, .int .i64 s.sym, .int .i64 s.stub] 69 (0, 0)))
      clear hx hbel hF Hbel hso
      go_upto_region 5 with fail
      have hz1 : (wr.alloc (.cells #[.int .i64 s.at_, .int .i64 s.sym, .int .i64 s.stub] 69 (0, 0))).heap.size = wr.heap.size + 1 := by simp
      generalize wr.alloc (.cells #[.int .i64 s.at_, .int .i64 s.sym, .int .i64 s.stub] 69 (0, 0)) = w1 at *
      generalize wr.heap.size = zs at *
      have t0 : w1.cell? ⟨zs, 0, none⟩ = some (.int .i64 s.at_) := by rw [Lib.cell_of_heap HFs.out]; rfl
      have t1 : w1.cell? ⟨zs, 1, none⟩ = some (.int .i64 s.sym) := by rw [Lib.cell_of_heap HFs.out]; rfl
      have t2 : w1.cell? ⟨zs, 2, none⟩ = some (.int .i64 s.stub) := by rw [Lib.cell_of_heap HFs.out]; rfl
      obtain ⟨i0, i1, i2, i3, i4, i5, i6, i7, i8, i9, i10, i11, i12, i13, i14⟩ := img_cells HFi.out
      clear g0 g1 g2
      go_wp2_with fail
      refine (HS.out w1 s.sym HBs.out Hso.out.1).mono ?_
      rintro e w2 ⟨rfl, hb2⟩
      have hz2 := hb2.size
      have F2 := Lib.hid ((hb2.block w.heap.size (by omega)).trans HFi.out)
      have S2 := Lib.hid ((hb2.block zs (by omega)).trans HFs.out)
      have B2 := Lib.hid (HBs.out.trans (hb2.mono (by omega)))
      clear hb2 i0 i1 i2 i3 i4 i5 i6 i7 i8 i9 i10 i11 i12 i13 i14 t0 t1 t2
      cases hsy : symAt im s.sym with
      | none =>
        have hv : symV im s.sym = .tuple #[.agg #[.string ⟨#[]⟩, .string ⟨#[]⟩, .bool false, .int .i64 0, .bool false, .int .i64 0, .bool false, .int .i64 0, .int .i64 0], .bool false] := by rw [symV, symD, hsy]; rfl
        rw [hv]
        have Hn : Hid (slotsB im = false) := Lib.hid (by rw [HD.out, Hse.out, Hdc.out, slotsFrom_bad (slotB_none hsy)]; simp)
        have B3 := Lib.hid (B2.out.alloc (by omega) (.cells #[.string ⟨#[]⟩, .string ⟨#[]⟩, .bool false, .int .i64 0, .bool false, .int .i64 0, .bool false, .int .i64 0, .int .i64 0] 54 (0, 0)))
        clear hv hsy
        go_wp2
        go_ret
        exact ⟨by rw [Hn.out]; rfl, B3.out⟩
      | some y =>
        have hv : symV im s.sym = .tuple #[.agg #[.string ⟨y.name.toArray⟩, .string ⟨y.version.toArray⟩, .bool y.old, .int .i64 y.kind, .bool y.weak, .int .i64 y.vis, .bool y.defined, .int .i64 y.value, .int .i64 y.size], .bool true] := by rw [symV, symD, hsy]; rfl
        rw [hv]
        have Hsy := Lib.hid hsy
        have Y3 := Lib.hid (heap_alloc_new w2 (.cells #[.string ⟨y.name.toArray⟩, .string ⟨y.version.toArray⟩, .bool y.old, .int .i64 y.kind, .bool y.weak, .int .i64 y.vis, .bool y.defined, .int .i64 y.value, .int .i64 y.size] 54 (0, 0)))
        have S3 := Lib.hid ((heap_alloc_old w2 (.cells #[.string ⟨y.name.toArray⟩, .string ⟨y.version.toArray⟩, .bool y.old, .int .i64 y.kind, .bool y.weak, .int .i64 y.vis, .bool y.defined, .int .i64 y.value, .int .i64 y.size] 54 (0, 0)) (r := zs) (by omega)).trans S2.out)
        have F3 := Lib.hid ((heap_alloc_old w2 (.cells #[.string ⟨y.name.toArray⟩, .string ⟨y.version.toArray⟩, .bool y.old, .int .i64 y.kind, .bool y.weak, .int .i64 y.vis, .bool y.defined, .int .i64 y.value, .int .i64 y.size] 54 (0, 0)) (r := w.heap.size) (by omega)).trans F2.out)
        have B3 := Lib.hid (B2.out.alloc (by omega) (.cells #[.string ⟨y.name.toArray⟩, .string ⟨y.version.toArray⟩, .bool y.old, .int .i64 y.kind, .bool y.weak, .int .i64 y.vis, .bool y.defined, .int .i64 y.value, .int .i64 y.size] 54 (0, 0)))
        clear hv hsy S2 F2 B2
        go_upto_region 6 with fail
        have hz3 : (w2.alloc (.cells #[.string ⟨y.name.toArray⟩, .string ⟨y.version.toArray⟩, .bool y.old, .int .i64 y.kind, .bool y.weak, .int .i64 y.vis, .bool y.defined, .int .i64 y.value, .int .i64 y.size] 54 (0, 0))).heap.size = w2.heap.size + 1 := by simp
        generalize w2.alloc (.cells #[.string ⟨y.name.toArray⟩, .string ⟨y.version.toArray⟩, .bool y.old, .int .i64 y.kind, .bool y.weak, .int .i64 y.vis, .bool y.defined, .int .i64 y.value, .int .i64 y.size] 54 (0, 0)) = w3 at *
        obtain ⟨y0, y1, y2, y3, y4, y5, y6, y7, y8⟩ := sym_cells Y3.out
        have t0 : w3.cell? ⟨zs, 0, none⟩ = some (.int .i64 s.at_) := by rw [Lib.cell_of_heap S3.out]; rfl
        have t2 : w3.cell? ⟨zs, 2, none⟩ = some (.int .i64 s.stub) := by rw [Lib.cell_of_heap S3.out]; rfl
        by_cases hk1 : y.kind = 1
        case neg =>
          have Hn : Hid (slotsB im = false) := Lib.hid (by rw [HD.out, Hse.out, Hdc.out, slotsFrom_bad (slotB_kind Hsy.out hk1)]; simp)
          have b1 : (y.kind != 1) = true := by rw [bne_iff_ne]; exact hk1
          go_wp2
          go_ret
          exact ⟨by rw [Hn.out]; rfl, B3.out⟩
        have b1 : (y.kind != 1) = false := by rw [bne_eq_false_iff_eq]; exact hk1
        by_cases h1 : x ≤ s.at_
        case neg =>
          have Hn : Hid (slotsB im = false) := Lib.hid (by rw [HD.out, Hse.out, Hdc.out, slotsFrom_low h1]; simp)
          have hd : decide (s.at_ < x) = true := by rw [decide_eq_true_eq]; omega
          go_wp2
          go_ret
          exact ⟨by rw [Hn.out]; rfl, B3.out⟩
        have hd : decide (s.at_ < x) = false := by rw [decide_eq_false_iff_not]; omega
        obtain ⟨i0, i1, i2, i3, i4, i5, i6, i7, i8, i9, i10, i11, i12, i13, i14⟩ := img_cells F3.out
        have HH1 := Lib.hid (HH.out w3 s.at_ 8 0 B3.out Hso.out.2.1 (by decide) (by decide))
        go_wp2_with fail
        refine HH1.out.mono ?_
        rintro e w4 ⟨rfl, hb4⟩
        have hz4 := hb4.size
        have F4 := Lib.hid ((hb4.block w.heap.size (by omega)).trans F3.out)
        have S4 := Lib.hid ((hb4.block zs (by omega)).trans S3.out)
        have B4 := Lib.hid (B3.out.trans (hb4.mono (by omega)))
        clear hb4 i0 i1 i2 i3 i4 i5 i6 i7 i8 i9 i10 i11 i12 i13 i14 t0 t2 y0 y1 y2 y3 y4 y5 y6 y7 y8 Y3 HH1
        cases hh1 : holdsB im.segs s.at_ 8 0 with
        | false =>
          have Hn : Hid (slotsB im = false) := Lib.hid (by rw [HD.out, Hse.out, Hdc.out, slotsFrom_bad (slotB_at hh1)]; simp)
          clear hh1
          go_wp2
          go_ret
          exact ⟨by rw [Hn.out]; rfl, B4.out⟩
        | true =>
          have hat := holds_range (segs_good Hg.out) hh1
          have Hh1 := Lib.hid hh1
          clear hh1
          obtain ⟨i0, i1, i2, i3, i4, i5, i6, i7, i8, i9, i10, i11, i12, i13, i14⟩ := img_cells F4.out
          have t0 : w4.cell? ⟨zs, 0, none⟩ = some (.int .i64 s.at_) := by rw [Lib.cell_of_heap S4.out]; rfl
          have t2 : w4.cell? ⟨zs, 2, none⟩ = some (.int .i64 s.stub) := by rw [Lib.cell_of_heap S4.out]; rfl
          have HH2 := Lib.hid (HH.out w4 s.stub 8 4 B4.out Hso.out.2.2 (by decide) (by decide))
          go_wp2_with fail
          refine HH2.out.mono ?_
          rintro e w5 ⟨rfl, hb5⟩
          have hz5 := hb5.size
          have F5 := Lib.hid ((hb5.block w.heap.size (by omega)).trans F4.out)
          have S5 := Lib.hid ((hb5.block zs (by omega)).trans S4.out)
          have B5 := Lib.hid (B4.out.trans (hb5.mono (by omega)))
          clear hb5 i0 i1 i2 i3 i4 i5 i6 i7 i8 i9 i10 i11 i12 i13 i14 t0 t2 HH2
          cases hh2 : holdsB im.segs s.stub 8 4 with
          | false =>
            have Hn : Hid (slotsB im = false) := Lib.hid (by rw [HD.out, Hse.out, Hdc.out, slotsFrom_bad (slotB_stub hh2)]; simp)
            clear hh2
            go_wp2
            go_ret
            exact ⟨by rw [Hn.out]; rfl, B5.out⟩
          | true =>
            have Hh2 := Lib.hid hh2
            clear hh2
            obtain ⟨i0, i1, i2, i3, i4, i5, i6, i7, i8, i9, i10, i11, i12, i13, i14⟩ := img_cells F5.out
            clear i0 i1 i2 i3 i4 i5 i6 i7 i8 i10 i11 i12 i13 i14
            go_wp2_with fail
            go_loopw [56] (fun i wi => ∃ (q : Nat), i = .int .i64 q ∧ q ≤ im.relocs.length ∧ (im.relocs.take q).all (fun r => !meetB im s r) = true ∧ Below w5.heap.size w5 wi) (fun i _ => im.relocs.length - (intOf i).toNat)
            case atStart => exact ⟨0, rfl, Nat.zero_le _, rfl, Below.refl _ _⟩
            case round =>
              obtain ⟨q, rfl, hq, hall, hbi⟩ := hrel
              have Hall := Lib.hid hall
              have Hbi := Lib.hid hbi
              have hzi := hbi.size
              clear hall
              have F6 := (hbi.block w.heap.size (by omega)).trans F5.out
              have S6 := (hbi.block zs (by omega)).trans S5.out
              by_cases hlt2 : q < im.relocs.length
              · obtain rfl := Hrat.out.addr (by omega)
                obtain ⟨r, hxr⟩ : ∃ r, im.relocs[q]? = some r := ⟨_, List.getElem?_eq_getElem hlt2⟩
                obtain ⟨g0, g1, g2, g3⟩ := (Hrat.out.below (B5.out.trans (hbi.mono (by omega)))).rel4 q r hxr
                have hro := Hrr.out r (List.mem_of_getElem? hxr)
                have hrg := reloc_good Hg.out hsl (Hrel.out r (List.mem_of_getElem? hxr))
                have Hsq := Lib.hid (all_take_snoc (fun r => !meetB im s r) im.relocs q r hxr)
                have Hbad := Lib.hid (slotB_meet (im := im) (s := s) hxr)
                have Hm : Hid (meetB im s r = (decide (r.at_ < s.at_ + 8) && decide (s.at_ < r.at_ + wideL im r))) := Lib.hid rfl
                have hw0 : 0 ≤ wideL im r := by
                  unfold wideL
                  split
                  · rename_i s' hs'
                    have := (Hsz.out s' (symAt_range hs').2.2).1
                    split <;> omega
                  · omega
                have Hro := Lib.hid hro
                obtain ⟨wd, hwd⟩ : ∃ wd, wideL im r = wd := ⟨_, rfl⟩
                have HWr := Lib.hid (fun w' hb => HW.out w' r hb Hro.out)
                rw [hwd] at HWr hrg hw0 Hm
                have hsbw := World.block_lt_of_cell? _ _ g0
                have R7 := heap_alloc_new wr (.cells #[.int .i64 r.at_, .int .i64 r.kind, .int .i64 r.sym, .int .i64 r.add] 57 (0, 0))
                have F7 := (heap_alloc_old wr (.cells #[.int .i64 r.at_, .int .i64 r.kind, .int .i64 r.sym, .int .i64 r.add] 57 (0, 0)) (r := w.heap.size) (by omega)).trans F6
                have S7 := (heap_alloc_old wr (.cells #[.int .i64 r.at_, .int .i64 r.kind, .int .i64 r.sym, .int .i64 r.add] 57 (0, 0)) (r := zs) (by omega)).trans S6
                have B7 := Lib.hid (Hbi.out.alloc hzi (.cells #[.int .i64 r.at_, .int .i64 r.kind, .int .i64 r.sym, .int .i64 r.add] 57 (0, 0)))
                clear hxr hbi Hbi hro hwd F6 S6
                go_upto_region 11 with fail
                have hz7 : (wr.alloc (.cells #[.int .i64 r.at_, .int .i64 r.kind, .int .i64 r.sym, .int .i64 r.add] 57 (0, 0))).heap.size = wr.heap.size + 1 := by simp
                generalize wr.alloc (.cells #[.int .i64 r.at_, .int .i64 r.kind, .int .i64 r.sym, .int .i64 r.add] 57 (0, 0)) = w7 at *
                have t0 : w7.cell? ⟨zs, 0, none⟩ = some (.int .i64 s.at_) := by rw [Lib.cell_of_heap S7]; rfl
                have r0 : w7.cell? ⟨wr.heap.size, 0, none⟩ = some (.int .i64 r.at_) := by rw [Lib.cell_of_heap R7]; rfl
                have r1 : w7.cell? ⟨wr.heap.size, 1, none⟩ = some (.int .i64 r.kind) := by rw [Lib.cell_of_heap R7]; rfl
                have r2 : w7.cell? ⟨wr.heap.size, 2, none⟩ = some (.int .i64 r.sym) := by rw [Lib.cell_of_heap R7]; rfl
                have r3 : w7.cell? ⟨wr.heap.size, 3, none⟩ = some (.int .i64 r.add) := by rw [Lib.cell_of_heap R7]; rfl
                obtain ⟨i0, i1, i2, i3, i4, i5, i6, i7, i8, i9, i10, i11, i12, i13, i14⟩ := img_cells F7
                have l0 := fun x : Later w7 => x.cell i0
                have l1 := fun x : Later w7 => x.cell i1
                have l2 := fun x : Later w7 => x.cell i2
                have l3 := fun x : Later w7 => x.cell i3
                have l4 := fun x : Later w7 => x.cell i4
                have l5 := fun x : Later w7 => x.cell i5
                have l6 := fun x : Later w7 => x.cell i6
                have l7 := fun x : Later w7 => x.cell i7
                have l8 := fun x : Later w7 => x.cell i8
                have l9 := fun x : Later w7 => x.cell i9
                have l10 := fun x : Later w7 => x.cell i10
                have l11 := fun x : Later w7 => x.cell i11
                have l12 := fun x : Later w7 => x.cell i12
                have l13 := fun x : Later w7 => x.cell i13
                have l14 := fun x : Later w7 => x.cell i14
                have n0 := fun x : Later w7 => x.cell t0
                have m0 := fun x : Later w7 => x.cell r0
                have m1 := fun x : Later w7 => x.cell r1
                have m2 := fun x : Later w7 => x.cell r2
                have m3 := fun x : Later w7 => x.cell r3
                clear i0 i1 i2 i3 i4 i5 i6 i7 i8 i9 i10 i11 i12 i13 i14 t0 r0 r1 r2 r3 g0 g1 g2 g3 R7 F7 S7
                by_cases hm1 : r.at_ < s.at_ + 8
                case neg =>
                  have Hmf : Hid (meetB im s r = false) := Lib.hid (by rw [Hm.out, decide_eq_false (p := r.at_ < s.at_ + 8) hm1]; rfl)
                  have hd1 : decide (r.at_ < s.at_ + 8) = false := by rw [decide_eq_false_iff_not]; omega
                  refine wp_region_later (by kernel_rfl) (by kernel_rfl) ?_
                  repeat (go_big_quiet_step (fail))
                  refine wpQuiet_nil ?_
                  rintro _ ⟨⟨wq, hq⟩, rfl⟩
                  try simp only at hq
                  have Hq := Lib.hid hq
                  clear hq l0 l1 l2 l3 l4 l5 l6 l7 l8 l9 l10 l11 l12 l13 l14 n0 m0 m1 m2 m3
                  go_wp2
                  go_roundw
                  case rel => exact ⟨q + 1, by go_num, by omega, by rw [Hsq.out, Hall.out, Hmf.out]; rfl, B7.out.trans (Hq.out.mono (by omega))⟩
                  case measure => simp [intOf]; omega
                have hd1 : decide (r.at_ < s.at_ + 8) = true := by rw [decide_eq_true_eq]; omega
                by_cases hm2 : s.at_ < r.at_ + wd
                case pos =>
                  have Hn : Hid (slotsB im = false) := Lib.hid (by rw [HD.out, Hse.out, Hdc.out, slotsFrom_bad (Hbad.out (by rw [Hm.out, decide_eq_true (p := r.at_ < s.at_ + 8) hm1, decide_eq_true (p := s.at_ < r.at_ + wd) hm2]; rfl))]; simp)
                  have hd2 : decide (s.at_ < r.at_ + wd) = true := by rw [decide_eq_true_eq]; omega
                  refine wp_region_later (by kernel_rfl) (by kernel_rfl) ?_
                  repeat (go_big_quiet_step (first | (go_at_call 68; refine Later.call _ (HWr.out _ ?_); exact (B5.out.trans (B7.out.mono (by omega))).trans ((Later.h _).mono (by omega)))))
                  refine wpQuiet_nil ?_
                  rintro _ ⟨⟨wq, hq⟩, rfl⟩
                  try simp only at hq
                  have Hq := Lib.hid hq
                  clear hq l0 l1 l2 l3 l4 l5 l6 l7 l8 l9 l10 l11 l12 l13 l14 n0 m0 m1 m2 m3
                  go_wp2
                  go_ret
                  exact ⟨by rw [Hn.out]; rfl, (B5.out.trans (B7.out.mono (by omega))).trans (Hq.out.mono (by omega))⟩
                have Hmf : Hid (meetB im s r = false) := Lib.hid (by rw [Hm.out, decide_eq_false (p := s.at_ < r.at_ + wd) hm2]; simp)
                have hd2 : decide (s.at_ < r.at_ + wd) = false := by rw [decide_eq_false_iff_not]; omega
                refine wp_region_later (by kernel_rfl) (by kernel_rfl) ?_
                repeat (go_big_quiet_step (first | (go_at_call 68; refine Later.call _ (HWr.out _ ?_); exact (B5.out.trans (B7.out.mono (by omega))).trans ((Later.h _).mono (by omega)))))
                refine wpQuiet_nil ?_
                rintro _ ⟨⟨wq, hq⟩, rfl⟩
                try simp only at hq
                have Hq := Lib.hid hq
                clear hq l0 l1 l2 l3 l4 l5 l6 l7 l8 l9 l10 l11 l12 l13 l14 n0 m0 m1 m2 m3
                go_wp2
                go_roundw
                case rel => exact ⟨q + 1, by go_num, by omega, by rw [Hsq.out, Hall.out, Hmf.out]; rfl, B7.out.trans (Hq.out.mono (by omega))⟩
                case measure => simp [intOf]; omega
              · have Hall2 : Hid ((im.relocs.all fun r => !meetB im s r) = true) := Lib.hid (by have := Hall.out; rwa [List.take_of_length_le (by omega)] at this)
                have hok := slotB_ok Hsy.out hk1 Hh1.out Hh2.out Hall2.out
                have Hnx : Hid (slotsFrom im 0 im.slots = slotsFrom im (s.at_ + 8) (im.slots.drop (k + 1))) := Lib.hid (by rw [Hse.out, Hdc.out, slotsFrom_ok h1 hok])
                have t0 : wr.cell? ⟨zs, 0, none⟩ = some (.int .i64 s.at_) := by rw [Lib.cell_of_heap S6]; rfl
                have HF6 := Lib.hid F6
                clear hok hbi F6 S6
                go_wp2
                go_roundw
                case rel => exact ⟨k + 1, s.at_ + 8, by go_num, by first | rfl | go_num, by omega, by omega, by omega, Hnx.out, B5.out.trans (Hbi.out.mono (by omega)), HF6.out, by omega⟩
                case measure => simp [intOf]; omega
    · obtain ⟨i0, i1, i2, i3, i4, i5, i6, i7, i8, i9, i10, i11, i12, i13, i14⟩ := img_cells hF
      have hd : Hid (slotsB im = decide (im.slots.length ≤ 128)) := Lib.hid (by rw [HD.out, Hse.out, List.drop_eq_nil_of_le (by omega)]; simp [slotsFrom])
      clear hbel hF i0 i1 i2 i3 i4 i5 i6 i7 i8 i9 i11 i12 i13 i14
      go_wp2
      go_ret
      exact ⟨ret_bool' (by rw [hd.out, Bool.eq_iff_iff]; simp; omega), Hbel.out⟩

end Go.Proofs.Ytbliedldlimpgaa

namespace Go.Proofs.Ytbliedldlimpgaa
set_option linter.unusedVariables false
set_option linter.unusedSimpArgs false
open Go.RowKit

theorem info_hash : (Try.prog.info? 102).map (fun i => (i.zero, i.size, i.bytes)) = some (some (.int .u32 0), 1, 4) := by kernel_rfl
def hashesK (syms : List SymL) (n : Nat) : List Int := (seenK syms n).map fun k => hashB (symN syms k).name

/-- two lists that the call makes, in rows apart; cells of its own that stand in neither row -/
structure HInv (B : Nat) (w0 w : World) (va vl : Value) (at_ l : List Int) (pend : List (Nat × Value)) : Prop where
  a : OwnK 3 kInt B (fun _ => False) w va at_
  l : OwnK 102 kHash B (fun _ => False) w vl l
  apart : ∀ k, va.ownBlock = some k → vl.ownBlock ≠ some k
  pend : ∀ p ∈ pend, w.cell? ⟨p.1, 0, none⟩ = some p.2 ∧ va.ownBlock ≠ some p.1 ∧ vl.ownBlock ≠ some p.1
  below : Below B w0 w
  hB : B ≤ w.heap.size
section
variable {B : Nat} {w0 w : World} {va vl : Value} {at_ l : List Int} {pend : List (Nat × Value)}
theorem HInv.drew (h : HInv B w0 w va vl at_ l pend) : HInv B w0 w.drew va vl at_ l pend := ⟨h.a.drew, h.l.drew, h.apart, h.pend, h.below.drew, h.hB⟩
theorem HInv.less {p2 : List (Nat × Value)} (h : HInv B w0 w va vl at_ l pend) (hp : ∀ p ∈ p2, p ∈ pend) : HInv B w0 w va vl at_ l p2 := ⟨h.a, h.l, h.apart, fun p hx => h.pend p (hp p hx), h.below, h.hB⟩
theorem HInv.alloc (h : HInv B w0 w va vl at_ l pend) (v : Value) (t : TypeId) : HInv B w0 (w.alloc (.cells #[v] t (0, 0))) va vl at_ l ((w.heap.size, v) :: pend) :=
  ⟨h.a.alloc _, h.l.alloc _, h.apart, fun p hp => by
    rcases List.mem_cons.1 hp with rfl | hp
    · refine ⟨by simp, fun e => ?_, fun e => ?_⟩
      · have := (h.a.lt _ e).2; simp at this
      · have := (h.l.lt _ e).2; simp at this
    · obtain ⟨h1, h2⟩ := h.pend p hp
      exact ⟨by rw [World.cell?_alloc_lt _ _ _ (World.block_lt_of_cell? _ _ h1)]; exact h1, h2⟩, h.below.alloc h.hB _, by have := h.hB; rw [World.size_alloc]; omega⟩
theorem HInv.alloc' (h : HInv B w0 w va vl at_ l pend) (o : Obj) : HInv B w0 (w.alloc o) va vl at_ l pend :=
  ⟨h.a.alloc _, h.l.alloc _, h.apart, fun p hp => by
    obtain ⟨h1, h2⟩ := h.pend p hp
    exact ⟨by rw [World.cell?_alloc_lt _ _ _ (World.block_lt_of_cell? _ _ h1)]; exact h1, h2⟩, h.below.alloc h.hB _, by have := h.hB; rw [World.size_alloc]; omega⟩
theorem HInv.cell (h : HInv B w0 w va vl at_ l pend) {n : Nat} {v : Value} (hp : (n, v) ∈ pend) : w.cell? ⟨n, 0, none⟩ = some v := (h.pend _ hp).1

theorem step_flat {α : Type} {e : TypeId} {K : Kind α} {w' : World} {v : Value} {xs : List α} {row : Option Nat} (hflat : ∀ S S' w w' x r, K.R S w x r → K.R S' w' x r) (h : OwnK e K B (fun _ => False) w v xs) (hs : Step (fun b => b < w.heap.size ∧ row ≠ some b) w w')
    (hne : ∀ k, v.ownBlock = some k → row ≠ some k) : OwnK e K B (fun _ => False) w' v xs := by
  obtain ⟨ys, h1, h2, h3⟩ := h
  have hlt := World.ownsRow.lt h1
  refine ⟨ys, ⟨h1.1, ?_⟩, ?_, h3⟩
  · rcases h1.2 with h0 | ⟨g, cap, cur, hv, hg, hh, r⟩
    · exact Or.inl h0
    · refine Or.inr ⟨g, cap, cur, hv, hg, ?_, r⟩
      have ho : v.ownBlock = some g := by rw [hv]; rfl
      rw [hs.block g ⟨(hlt g ho).2, hne g ho⟩]; exact hh
  · have : ∀ {l : List α} {xs : List Value} {S S' : Nat → Prop}, RowsOf K S w l xs → RowsOf K S' w' l xs := by
      intro l
      induction l with
      | nil => intro xs S S' h; exact h
      | cons x l ih => rintro xs S S' ⟨r, ys, e, a1, a2⟩; exact ⟨r, ys, e, hflat _ _ _ _ _ _ a1, ih a2⟩
    exact this h2
/-- append to one of the two, at a step of a region that draws its order -/
theorem HInv.stepA {o : Oper} {a : Act} {K : Act → World → Prop} {Q : Exit → Act → World → Prop} (h : HInv B w0 w va vl at_ l pend) (s x : Operand)
    (ho : o.op = .call { callee := .builtin .append, args := #[s, x], argTypes := #[35, 35] }) (n : Nat) (hn : at_.length = n) (hs : a.eval s = va) (nb : Nat) (y : Int) (hx : a.eval x = .slice (some ⟨nb, 0, none⟩) 1 1) (hp : (nb, Value.int .i64 y) ∈ pend) (hlen : n ≤ 1000000)
    (hk : ∀ g c w', HInv B w0 w' (.slice (some ⟨g, 0, none⟩) (n + 1) c) vl (at_ ++ [y]) l pend → K (a.put o.dst (.slice (some ⟨g, 0, none⟩) (n + 1) c)) w') : Oper.wp Try.prog o a w K Q := by
  subst hn
  obtain ⟨i0, hi, hz0, hz1, hz2⟩ := info_parts info_int
  obtain ⟨xs, h1, h2, h3⟩ := h.a
  have hlt := World.ownsRow.lt h1
  have hcell := h.cell hp
  refine wp_append_lies w s x 35 ho B 3 i0 (.int .i64 0) 1 8 Try.underlying35 hi hz0 hz1 hz2 rfl (by decide) va at_.length xs hs h1 ⟨nb, 0, none⟩ 1 1 [.int .i64 y] hx rfl ?_ ?_ (by decide) (by unfold maxLen; omega) (by omega) h.hB _ rfl ?_
  · intro j u hj
    match j, hj with
    | 0, hj => simp at hj; subst hj; simpa [Addr.add_lit] using hcell
    | j + 1, hj => simp at hj
  · intro u hu; simp at hu; subst hu; rfl
  · intro g c w' g1 g2 g3 g4
    have hst : Step (fun b => b < w.heap.size ∧ va.ownBlock ≠ some b) w w' := Step.of_grown g2 (fun b hb => ⟨hb.1, hb.2⟩)
    refine hk g c w' ?_
    refine ⟨⟨xs ++ [.int .i64 y], by have g5 := g1; simpa [kInt, kHash] using g5, by
      have hr : RowsOf kInt (fun b => b < w.heap.size ∧ ¬ False ∧ va.ownBlock ≠ some b) w at_ xs := h2
      have : ∀ {l : List Int} {xs : List Value} {S S' : Nat → Prop} {w w' : World}, RowsOf kInt S w l xs → RowsOf kInt S' w' l xs := by
        intro l
        induction l with
        | nil => intro xs S S' w w' h; exact h
        | cons x l ih => rintro xs S S' w w' ⟨r, ys, e, a1, a2⟩; exact ⟨r, ys, e, a1, ih a2⟩
      exact (this hr).snoc rfl, fun _ _ hE => hE⟩, step_flat (fun _ _ _ _ _ _ h => h) h.l hst (fun k hk e => h.apart k e hk), ?_, fun p hp => ?_, ?_, Nat.le_trans h.hB hst.size⟩
    · intro k hk e
      have : k = g := by simpa [Value.ownBlock] using hk.symm
      subst this
      rcases g3 with h' | h'
      · exact h.apart _ h' e
      · have := (h.l.lt _ e).2; omega
    · obtain ⟨q1, q2, q3⟩ := h.pend p hp
      have hq : p.1 < w.heap.size := World.block_lt_of_cell? _ _ q1
      refine ⟨by rw [World.cell?_of_block (a := ⟨p.1, 0, none⟩) (hst.block p.1 ⟨hq, q2⟩)]; exact q1, ?_, ?_⟩
      · intro e
        have : p.1 = g := by simpa [Value.ownBlock] using e.symm
        rcases g3 with h' | h'
        · exact q2 (by rw [this]; exact h')
        · omega
      · exact q3
    · exact h.below.trans (hst.imp (S' := (· < B)) (fun b hb => ⟨Nat.lt_of_lt_of_le hb h.hB, fun e => by have h5 := (hlt b e).1; have h6 : b < B := hb; omega⟩)).below
/-- append to one of the two, at a step of a region that draws its order -/
theorem HInv.stepL {o : Oper} {a : Act} {K : Act → World → Prop} {Q : Exit → Act → World → Prop} (h : HInv B w0 w va vl at_ l pend) (s x : Operand)
    (ho : o.op = .call { callee := .builtin .append, args := #[s, x], argTypes := #[101, 101] }) (n : Nat) (hn : l.length = n) (hs : a.eval s = vl) (nb : Nat) (y : Int) (hx : a.eval x = .slice (some ⟨nb, 0, none⟩) 1 1) (hp : (nb, Value.int .u32 y) ∈ pend) (hlen : n ≤ 1000000)
    (hk : ∀ g c w', HInv B w0 w' va (.slice (some ⟨g, 0, none⟩) (n + 1) c) at_ (l ++ [y]) pend → K (a.put o.dst (.slice (some ⟨g, 0, none⟩) (n + 1) c)) w') : Oper.wp Try.prog o a w K Q := by
  subst hn
  obtain ⟨i0, hi, hz0, hz1, hz2⟩ := info_parts info_hash
  obtain ⟨xs, h1, h2, h3⟩ := h.l
  have hlt := World.ownsRow.lt h1
  have hcell := h.cell hp
  refine wp_append_lies w s x 101 ho B 102 i0 (.int .u32 0) 1 4 Try.underlying101 hi hz0 hz1 hz2 rfl (by decide) vl l.length xs hs h1 ⟨nb, 0, none⟩ 1 1 [.int .u32 y] hx rfl ?_ ?_ (by decide) (by unfold maxLen; omega) (by omega) h.hB _ rfl ?_
  · intro j u hj
    match j, hj with
    | 0, hj => simp at hj; subst hj; simpa [Addr.add_lit] using hcell
    | j + 1, hj => simp at hj
  · intro u hu; simp at hu; subst hu; rfl
  · intro g c w' g1 g2 g3 g4
    have hst : Step (fun b => b < w.heap.size ∧ vl.ownBlock ≠ some b) w w' := Step.of_grown g2 (fun b hb => ⟨hb.1, hb.2⟩)
    refine hk g c w' ?_
    refine ⟨step_flat (fun _ _ _ _ _ _ h => h) h.a hst (fun k hk e => h.apart k hk e), ⟨xs ++ [.int .u32 y], by have g5 := g1; simpa [kInt, kHash] using g5, by
      have hr : RowsOf kHash (fun b => b < w.heap.size ∧ ¬ False ∧ vl.ownBlock ≠ some b) w l xs := h2
      have : ∀ {l : List Int} {xs : List Value} {S S' : Nat → Prop} {w w' : World}, RowsOf kHash S w l xs → RowsOf kHash S' w' l xs := by
        intro l
        induction l with
        | nil => intro xs S S' w w' h; exact h
        | cons x l ih => rintro xs S S' w w' ⟨r, ys, e, a1, a2⟩; exact ⟨r, ys, e, a1, ih a2⟩
      exact (this hr).snoc rfl, fun _ _ hE => hE⟩, ?_, fun p hp => ?_, ?_, Nat.le_trans h.hB hst.size⟩
    · intro k hk e
      have : k = g := by simpa [Value.ownBlock] using e.symm
      subst this
      rcases g3 with h' | h'
      · exact h.apart _ hk h'
      · have := (h.a.lt _ hk).2; omega
    · obtain ⟨q1, q2, q3⟩ := h.pend p hp
      have hq : p.1 < w.heap.size := World.block_lt_of_cell? _ _ q1
      refine ⟨by rw [World.cell?_of_block (a := ⟨p.1, 0, none⟩) (hst.block p.1 ⟨hq, q3⟩)]; exact q1, ?_, ?_⟩
      · exact q2
      · intro e
        have : p.1 = g := by simpa [Value.ownBlock] using e.symm
        rcases g3 with h' | h'
        · exact q3 (by rw [this]; exact h')
        · omega
    · exact h.below.trans (hst.imp (S' := (· < B)) (fun b hb => ⟨Nat.lt_of_lt_of_le hb h.hB, fun e => by have h5 := (hlt b e).1; have h6 : b < B := hb; omega⟩)).below
end

theorem hashesK_succ (syms : List SymL) (n : Nat) : hashesK syms (n + 1) = hashesK syms n ++ if seenB (symN syms n) then [hashB (symN syms n).name] else [] := by
  rw [hashesK, seenK_succ, List.map_append]
  by_cases h : seenB (symN syms n) = true
  · rw [if_pos h, if_pos h]; rfl
  · rw [if_neg h, if_neg h]; rfl
theorem hashesK_len (syms : List SymL) (n : Nat) : (hashesK syms n).length = (seenK syms n).length := by simp [hashesK]
set_option maxHeartbeats 32000000 in
set_option maxRecDepth 100000 in
theorem thashes_any (w : World) (v : Value) (syms : List SymL) (hs : LB kSym (· < w.heap.size) w v syms) (hz : syms.length ≤ 512) :
    Calls Try.prog 65 #[v] w fun e w' => ∃ r l, e = .returned (.tuple #[r, l]) ∧ OwnK 3 kInt w.heap.size (fun _ => False) w' r (toInts (seenIx syms)) ∧ OwnK 102 kHash w.heap.size (fun _ => False) w' l (hashesK syms syms.length) ∧ Below w.heap.size w w' := by
  obtain ⟨sa, sb, soff, scap, rfl, hsm, hsc, hat⟩ := hs.at
  have Hat := Lib.hid hat
  clear hs hat
  go_enter Try.func65, Try.ntmps65
  go_wp2
  go_loopw [4, 5, 10] (fun o p i wr => ∃ k : Nat, i = .int .i64 k ∧ k ≤ syms.length ∧ HInv w.heap.size w wr o p (toInts (seenK syms k)) (hashesK syms k) []) (fun _ _ i _ => syms.length - (intOf i).toNat)
  case atStart => exact ⟨0, rfl, Nat.zero_le _, ⟨OwnK.nil _ _ _ _ _, OwnK.nil _ _ _ _ _, fun k h => by simp [Value.ownBlock] at h, fun p hp => by simp at hp, Below.refl _ _, Nat.le_refl _⟩⟩
  case round =>
    obtain ⟨k, rfl, hk, hinv⟩ := hrel
    have hBr := hinv.below.size
    have hlN := seenK_le syms k
    have hl2 := toInts_len (seenK syms k)
    have hl3 := hashesK_len syms k
    obtain ⟨oa, oc, ho⟩ := hinv.a.form
    obtain ⟨pa, pc, hp⟩ := hinv.l.form
    rw [hl2] at ho
    rw [hl3] at hp
    subst ho hp
    by_cases hlt : k < syms.length
    · obtain rfl := Hat.out.addr (by omega)
      obtain ⟨s, hx⟩ : ∃ s, syms[k]? = some s := ⟨_, List.getElem?_eq_getElem hlt⟩
      obtain ⟨hso, g0, g1, g2, g3, g4, g5, g6, g7, g8⟩ := (Hat.out.below hinv.below).sym9 k s hx
      have HS := Lib.hid (seenK_succ syms k)
      have HS2 := Lib.hid (hashesK_succ syms k)
      rw [symN_at hx] at HS HS2
      have Hinv := Lib.hid hinv
      have HJ := Lib.hid (fun w => shash_any w s.name hso.name)
      have hsb := World.block_lt_of_cell? _ _ g0
      have Fs := heap_alloc_new wr (.cells #[.string ⟨s.name.toArray⟩, .string ⟨s.version.toArray⟩, .bool s.old, .int .i64 s.kind, .bool s.weak, .int .i64 s.vis, .bool s.defined, .int .i64 s.value, .int .i64 s.size] 54 (0, 0))
      have I1 := Lib.hid (hinv.alloc' (.cells #[.string ⟨s.name.toArray⟩, .string ⟨s.version.toArray⟩, .bool s.old, .int .i64 s.kind, .bool s.weak, .int .i64 s.vis, .bool s.defined, .int .i64 s.value, .int .i64 s.size] 54 (0, 0)))
      have hzs : (wr.alloc (.cells #[.string ⟨s.name.toArray⟩, .string ⟨s.version.toArray⟩, .bool s.old, .int .i64 s.kind, .bool s.weak, .int .i64 s.vis, .bool s.defined, .int .i64 s.value, .int .i64 s.size] 54 (0, 0))).heap.size = wr.heap.size + 1 := by simp
      have hown1 := fun k h => (hinv.a.lt k h).2
      have hown2 := fun k h => (hinv.l.lt k h).2
      clear hinv hx hso
      go_upto_region 6 with fail
      generalize wr.alloc (.cells #[.string ⟨s.name.toArray⟩, .string ⟨s.version.toArray⟩, .bool s.old, .int .i64 s.kind, .bool s.weak, .int .i64 s.vis, .bool s.defined, .int .i64 s.value, .int .i64 s.size] 54 (0, 0)) = w1 at *
      obtain ⟨c0, c1, c2, c3, c4, c5, c6, c7, c8⟩ := sym_cells Fs
      go_wp2_with fail
      refine (vseen_any w1 s).mono ?_
      rintro e w2 ⟨rfl, hb2⟩
      have hz2 := hb2.size
      have cn := (hb2.cell (World.block_lt_of_cell? _ _ c0)).trans c0
      have I2 : HInv w.heap.size w w2 (.slice oa (seenK syms k).length oc) (.slice pa (seenK syms k).length pc) (toInts (seenK syms k)) (hashesK syms k) [(wr.heap.size, .string ⟨s.name.toArray⟩)] := by
        refine ⟨I1.out.a.below hb2, I1.out.l.below hb2, I1.out.apart, fun p hp => ?_, I1.out.below.trans (hb2.mono (by omega)), by omega⟩
        simp at hp
        subst hp
        exact ⟨cn, fun e => by have := hown1 _ e; omega, fun e => by have := hown2 _ e; omega⟩
      clear hb2 c0 c1 c2 c3 c4 c5 c6 c7 c8 Fs I1 g0 g1 g2 g3 g4 g5 g6 g7 g8 Hinv
      cases hsn : seenB s with
      | false =>
        rw [hsn] at HS HS2
        have I3 := Lib.hid I2
        clear I2 cn
        go_wp2
        go_roundw
        case rel =>
          have h1 := HS.out
          have h2 := HS2.out
          simp only [Bool.false_eq_true, if_false, List.append_nil] at h1 h2
          exact ⟨k + 1, by go_num, by omega, by rw [h1, h2]; exact I3.out.less (by simp)⟩
        case measure => simp [intOf]; omega
      | true =>
        rw [hsn] at HS HS2
        have I3 := Lib.hid I2.drew
        have h1 := HS.out
        have h2 := HS2.out
        simp only [if_true] at h1 h2
        have HN1 : Hid (toInts (seenK syms (k + 1)) = toInts (seenK syms k) ++ [(k : Int)]) := Lib.hid (by rw [h1, toInts, List.map_append]; rfl)
        have HN2 := Lib.hid h2
        have hlw := World.block_lt_of_cell? _ _ cn
        clear I2 h1 h2 HS HS2
        generalize wr.heap.size = zs at *
        go_wp2_with fail
        refine wp_region_held_drew (S := fun w' => w'.cell? ⟨zs, 0, none⟩ = some (.string ⟨s.name.toArray⟩)) (by kernel_rfl) (by exact I3.out.cell (by simp)) (fun hHeld => ?_)
        generalize w2.drew = wd at *
        refine wpAnyH_take (i := 0) (v := ?_) rfl (by kernel_rfl) (by kernel_rfl) (by kernel_rfl) (fun _ _ _ h => h) (Or.inl ⟨by rfl, ?_⟩) hHeld ?_
        rotate_left
        · (intro w hSw; (try dsimp only at hSw); go_simp; try with_reducible rfl)
        try simp only [Act.put, List.setIfInBounds_toArray, List.set_cons_zero, List.set_cons_succ]
        refine wpAnyH_take (i := 1) (v := ?_) rfl (by kernel_rfl) (by kernel_rfl) (by kernel_rfl) (fun _ _ _ h => h) (Or.inl ⟨by rfl, ?_⟩) hHeld ?_
        rotate_left
        · (intro w hSw; (try dsimp only at hSw); go_simp; try with_reducible rfl)
        try simp only [Act.put, List.setIfInBounds_toArray, List.set_cons_zero, List.set_cons_succ]
        refine wpAnyH_take (i := 4) (v := ?_) rfl (by kernel_rfl) (by kernel_rfl) (by kernel_rfl) (fun _ _ _ h => h) (Or.inl ⟨by rfl, ?_⟩) hHeld ?_
        rotate_left
        · (intro w hSw; (try dsimp only at hSw); go_simp; try with_reducible rfl)
        try simp only [Act.put, List.setIfInBounds_toArray, List.set_cons_zero, List.set_cons_succ]
        refine wpAnyH_take (i := 5) (v := ?_) rfl (by kernel_rfl) (by kernel_rfl) (by kernel_rfl) (fun _ _ _ h => h) (Or.inl ⟨by rfl, ?_⟩) hHeld ?_
        rotate_left
        · (intro w hSw; (try dsimp only at hSw); go_simp; try with_reducible rfl)
        try simp only [Act.put, List.setIfInBounds_toArray, List.set_cons_zero, List.set_cons_succ]
        refine wpAnyH_take (i := 6) (v := ?_) rfl (by kernel_rfl) (by kernel_rfl) (by kernel_rfl) (fun _ _ _ h => h) (Or.inl ⟨by rfl, ?_⟩) hHeld ?_
        rotate_left
        · (intro w hSw; (try dsimp only at hSw); go_simp; try with_reducible rfl)
        try simp only [Act.put, List.setIfInBounds_toArray, List.set_cons_zero, List.set_cons_succ]
        refine wpAnyH_ready (rs := [2]) (by kernel_rfl) (by simp) ?_
        refine AllReadyH.cons rfl (fun K hK => ?_) AllReadyH.nil
        go_simp
        have IA := Lib.hid (I3.out.alloc (.int .i64 (k : Int)) 3)
        refine hK.out _ _ (by exact IA.out.cell (by simp)) (fun hHeld => ?_)
        clear hK K
        try simp only [Act.put, List.setIfInBounds_toArray, List.set_cons_zero, List.set_cons_succ]
        generalize wd.alloc (.cells #[.int .i64 (k : Int)] 3 (0, 0)) = wA at *
        refine wpAnyH_ready (rs := [3]) (by kernel_rfl) (by simp) ?_
        refine AllReadyH.cons rfl (fun K hK => ?_) AllReadyH.nil
        rw [if_pos (by rfl)]
        simp only [List.getElem_toArray, List.getElem_cons_succ, List.getElem_cons_zero]
        refine IA.out.stepA (.tmp 17) (.tmp 19) ?_ (seenK syms k).length hl2 ?_ wd.heap.size (k : Int) ?_ (by simp) (by omega) (fun g c wAA hI => ?_)
        · rfl
        · rfl
        · rfl
        have IAA := Lib.hid hI
        clear hI
        refine hK.out _ _ (by exact IAA.out.cell (by simp)) (fun hHeld => ?_)
        clear hK K
        try simp only [Act.put, List.setIfInBounds_toArray, List.set_cons_zero, List.set_cons_succ]
        refine wpAnyH_ready (rs := [7]) (by kernel_rfl) (by simp) ?_
        refine AllReadyH.cons rfl (fun K hK => ?_) AllReadyH.nil
        go_simp
        refine (HJ.out _).mono ?_
        rintro e w5 ⟨rfl, hw5⟩
        rw [hw5]
        refine hK.out _ _ (by exact IAA.out.cell (by simp)) (fun hHeld => ?_)
        clear hK K
        try simp only [Act.put, List.setIfInBounds_toArray, List.set_cons_zero, List.set_cons_succ]
        have IAAB := IAA
        refine wpAnyH_ready (rs := [8]) (by kernel_rfl) (by simp) ?_
        refine AllReadyH.cons rfl (fun K hK => ?_) AllReadyH.nil
        go_simp
        have IAABB := Lib.hid (IAAB.out.alloc (.int .u32 (hashB s.name)) 102)
        refine hK.out _ _ (by exact IAABB.out.cell (by simp)) (fun hHeld => ?_)
        clear hK K
        try simp only [Act.put, List.setIfInBounds_toArray, List.set_cons_zero, List.set_cons_succ]
        generalize wAA.alloc (.cells #[.int .u32 (hashB s.name)] 102 (0, 0)) = wAABB at *
        refine wpAnyH_ready (rs := [9]) (by kernel_rfl) (by simp) ?_
        refine AllReadyH.cons rfl (fun K hK => ?_) AllReadyH.nil
        rw [if_pos (by rfl)]
        simp only [List.getElem_toArray, List.getElem_cons_succ, List.getElem_cons_zero]
        refine IAABB.out.stepL (.tmp 21) (.tmp 25) ?_ (seenK syms k).length hl3 ?_ wAA.heap.size (hashB s.name) ?_ (by simp) (by omega) (fun g c wAABBB hI => ?_)
        · rfl
        · rfl
        · rfl
        have IAABBB := Lib.hid hI
        clear hI
        refine hK.out _ _ (by exact IAABBB.out.cell (by simp)) (fun hHeld => ?_)
        clear hK K
        try simp only [Act.put, List.setIfInBounds_toArray, List.set_cons_zero, List.set_cons_succ]
        refine wpAnyH_take (i := 10) (v := ?_) rfl (by kernel_rfl) (by kernel_rfl) (by kernel_rfl) (fun _ _ _ h => h) (Or.inl ⟨by rfl, ?_⟩) hHeld ?_
        rotate_left
        · (intro w hSw; (try dsimp only at hSw); go_simp; try with_reducible rfl)
        try simp only [Act.put, List.setIfInBounds_toArray, List.set_cons_zero, List.set_cons_succ]
        refine wpAnyH_take (i := 11) (v := ?_) rfl (by kernel_rfl) (by kernel_rfl) (by kernel_rfl) (fun _ _ _ h => h) (Or.inl ⟨by rfl, ?_⟩) hHeld ?_
        rotate_left
        · (intro w hSw; (try dsimp only at hSw); go_simp; try with_reducible rfl)
        try simp only [Act.put, List.setIfInBounds_toArray, List.set_cons_zero, List.set_cons_succ]
        refine wpAnyH_done (by kernel_rfl) ?_ _
        clear hHeld
        go_wp2
        go_roundw
        case rel => exact ⟨k + 1, by go_num, by omega, by rw [HN1.out, HN2.out]; exact IAABBB.out.less (by simp)⟩
        case measure => simp [intOf]; omega
    · have he : k = syms.length := by omega
      subst he
      have Hinv := Lib.hid hinv
      clear hinv
      go_wp2
      go_ret2
      exact ⟨_, _, rfl, Hinv.out.a, Hinv.out.l, Hinv.out.below⟩

end Go.Proofs.Ytbliedldlimpgaa

namespace Go.Proofs.Ytbliedldlimpgaa
set_option linter.unusedVariables false
set_option linter.unusedSimpArgs false
open Go.RowKit

theorem count_take_succ (c : List Int) (k : Nat) (x y : Int) (hx : c[k]? = some y) : (c.take (k + 1)).count x = (c.take k).count x + if y = x then 1 else 0 := by
  obtain ⟨h, rfl⟩ := List.getElem?_eq_some_iff.1 hx
  rw [List.take_succ_eq_append_getElem h, List.count_append, List.count_singleton]
  by_cases e : c[k] = x <;> simp [e]
theorem sum_take_le : ∀ (l : List Nat) (n : Nat), (l.take n).sum ≤ l.sum
  | [], n => by simp
  | a :: l, 0 => by simp
  | a :: l, n + 1 => by have := sum_take_le l n; simp only [List.take_succ_cons, List.sum_cons]; omega
theorem sum_take_succ (l : List Nat) (k : Nat) (x : Nat) (hx : l[k]? = some x) : (l.take (k + 1)).sum = (l.take k).sum + x := by
  obtain ⟨h, rfl⟩ := List.getElem?_eq_some_iff.1 hx
  rw [List.take_succ_eq_append_getElem h, List.sum_append]; simp
theorem rising_snoc : ∀ (l : List Int) (a b : Int), risingB (l ++ [a]) = true → risingB (l ++ [a, b]) = decide (a < b)
  | [], a, b, _ => by simp [risingB]
  | [x], a, b, h => by
    simp only [List.cons_append, List.nil_append, risingB, Bool.and_eq_true, decide_eq_true_eq] at h ⊢
    simp [h.1]
  | x :: y :: l, a, b, h => by
    have e1 : risingB (x :: y :: l ++ [a]) = (decide (x < y) && risingB (y :: l ++ [a])) := rfl
    have e2 : risingB (x :: y :: l ++ [a, b]) = (decide (x < y) && risingB (y :: l ++ [a, b])) := rfl
    rw [e1, Bool.and_eq_true] at h
    rw [e2, h.1, rising_snoc (y :: l) a b h.2]; rfl
theorem rising_step (c : List Int) (k : Nat) (a b : Int) (ha : c[k]? = some a) (hb : c[k + 1]? = some b) (h : risingB (c.take (k + 1)) = true) : risingB (c.take (k + 2)) = decide (a < b) := by
  obtain ⟨h1, rfl⟩ := List.getElem?_eq_some_iff.1 ha
  obtain ⟨h2, rfl⟩ := List.getElem?_eq_some_iff.1 hb
  rw [List.take_succ_eq_append_getElem h1] at h
  rw [List.take_succ_eq_append_getElem h2, List.take_succ_eq_append_getElem h1, List.append_assoc]
  exact rising_snoc _ _ _ h
theorem rising_bad (c : List Int) (k : Nat) (h : risingB (c.take k) = false) : risingB c = false := by
  cases hr : risingB c with
  | false => rfl
  | true =>
    have := ((rising_pairwise c).1 hr).sublist (List.take_sublist k c)
    rw [(rising_pairwise _).2 this] at h; cases h

set_option maxHeartbeats 2000000 in
set_option maxRecDepth 100000 in
theorem jstandsn_any (w : World) (v : Value) (c : List Int) (x : Int) (hc : LB kInt (· < w.heap.size) w v c) :
    Calls Try.prog 76 #[v, .int .i64 x] w fun e w' => e = .returned (.int .i64 (c.count x : Nat)) ∧ w' = w := by
  obtain ⟨sa, sb, soff, scap, rfl, hsm, hsc, hat⟩ := hc.at
  have Hat := Lib.hid hat
  clear hc hat
  go_enter Try.func76, Try.ntmps76
  go_wp2
  go_loop [5, 6] (fun n i => ∃ k : Nat, k ≤ c.length ∧ i = .int .i64 k ∧ n = .int .i64 (((c.take k).count x : Nat) : Int)) (fun _ i => c.length - (intOf i).toNat)
  case atStart => exact ⟨0, Nat.zero_le _, rfl, by simp⟩
  case round =>
    obtain ⟨k, hk, rfl, rfl⟩ := hrel
    have hle : (c.take k).count x ≤ k := by have := List.count_le_length (a := x) (l := c.take k); rw [List.length_take] at this; omega
    by_cases hlt : k < c.length
    · obtain rfl := Hat.out.addr (by omega)
      obtain ⟨y, hy⟩ : ∃ y, c[k]? = some y := ⟨_, List.getElem?_eq_getElem hlt⟩
      have g := Hat.out.int1 k y hy
      have Hs := Lib.hid (count_take_succ c k x y hy)
      clear hy
      generalize (c.take k).count x = m at *
      by_cases e : y = x
      · have Hs2 : Hid ((c.take (k + 1)).count x = m + 1) := Lib.hid (by rw [Hs.out, if_pos e])
        have hb : (y == x) = true := by rw [beq_iff_eq]; exact e
        clear e
        go_wp2
        go_round
        case rel => exact ⟨k + 1, by omega, by go_num, by rw [Hs2.out]; go_num⟩
        case measure => simp [intOf]; omega
      · have Hs2 : Hid ((c.take (k + 1)).count x = m) := Lib.hid (by rw [Hs.out, if_neg e]; omega)
        have hb : (y == x) = false := by rw [beq_eq_false_iff_ne]; exact e
        clear e
        go_wp2
        go_round
        case rel => exact ⟨k + 1, by omega, by go_num, by rw [Hs2.out]⟩
        case measure => simp [intOf]; omega
    · have He : Hid ((c.take k).count x = c.count x) := Lib.hid (by rw [List.take_of_length_le (by omega)])
      generalize (c.take k).count x = m at *
      go_wp2
      go_ret
      exact ⟨by rw [← He.out]; rfl, rfl⟩

end Go.Proofs.Ytbliedldlimpgaa

namespace Go.Proofs.Ytbliedldlimpgaa
set_option linter.unusedVariables false
set_option linter.unusedSimpArgs false
open Go.RowKit

def lensB (im : ImgL) : List Nat := im.buckets.map List.length
theorem tableJ_parts (im : ImgL) : tableJ im = (decide (im.syms.length ≤ 512) && decide (1 ≤ im.buckets.length) && decide (im.buckets.length ≤ 512) && sieveB im.words im.shift && im.buckets.all risingB &&
  decide ((lensB im).sum = (seenIx im.syms).length) && (seenIx im.syms).all (standsB im)) := rfl
theorem tableJ_many (im : ImgL) (b : Nat) (h : (seenIx im.syms).length < ((lensB im).take b).sum) : tableJ im = false := by
  have := sum_take_le (lensB im) b
  rw [tableJ_parts, decide_eq_false (p := (lensB im).sum = (seenIx im.syms).length) (by omega)]; simp
theorem tableJ_rise (im : ImgL) (b : Nat) (c : List Int) (hc : im.buckets[b]? = some c) (h : risingB c = false) : tableJ im = false := by
  have : im.buckets.all risingB = false := by rw [List.all_eq_false]; exact ⟨c, List.mem_of_getElem? hc, by simp [h]⟩
  rw [tableJ_parts, this]; simp
theorem tableJ_stand (im : ImgL) (k : Nat) (i : Nat) (hi : (seenIx im.syms)[k]? = some i) (h : standsB im i = false) : tableJ im = false := by
  have : (seenIx im.syms).all (standsB im) = false := by rw [List.all_eq_false]; exact ⟨i, List.mem_of_getElem? hi, by simp [h]⟩
  rw [tableJ_parts, this]; simp
theorem toInts_at (l : List Nat) (k i : Nat) (h : l[k]? = some i) : (toInts l)[k]? = some (i : Int) := by simp [toInts, h]

set_option maxHeartbeats 16000000 in
set_option maxRecDepth 100000 in
theorem jtright_any (w : World) (im : ImgL) (vb vw vs : Value) (hb : LB kInts (· < w.heap.size) w vb im.buckets) (hw : LB kWord (· < w.heap.size) w vw im.words) (hs : LB kSym (· < w.heap.size) w vs im.syms)
    (hr : ∀ x ∈ im.words, 0 ≤ x ∧ x < 18446744073709551616) (hbl : ∀ c ∈ im.buckets, c.length ≤ 140737488355328) :
    Calls Try.prog 30 #[.agg #[vb, vw, .int .i64 im.shift], vs] w fun e w' => e = .returned (.bool (tableJ im)) ∧ Below w.heap.size w w' := by
  obtain ⟨ba, bb, boff, bcap, rfl, hbm, hbc, hbat⟩ := hb.at
  obtain ⟨sa, sb, soff, scap, rfl, hsm, hsc, hsat⟩ := hs.at
  obtain ⟨wa, wc, hwv⟩ := hw.form
  subst hwv
  have Hw := Lib.hid hw
  have HT := Lib.hid (tableJ_parts im)
  have Hbat := Lib.hid hbat
  have Hsat := Lib.hid hsat
  have Hr := Lib.hid hr
  have Hbl := Lib.hid hbl
  have Hs := Lib.hid hs
  have hwm := hw.max
  clear hb hs hw hbat hsat hr hbl
  have B1 := Lib.hid ((Below.refl w.heap.size w).alloc (Nat.le_refl _) (.cells #[.slice ba im.buckets.length bcap, .slice wa im.words.length wc, .int .i64 im.shift] 32 (0, 0)))
  have F1 := Lib.hid (heap_alloc_new w (.cells #[.slice ba im.buckets.length bcap, .slice wa im.words.length wc, .int .i64 im.shift] 32 (0, 0)))
  by_cases p1 : im.syms.length ≤ 512
  case neg =>
    have Hn : Hid (tableJ im = false) := Lib.hid (by rw [HT.out, decide_eq_false (p := im.syms.length ≤ 512) p1]; simp)
    have q1 : 512 < im.syms.length := by omega
    go_enter Try.func30, Try.ntmps30
    go_wp2
    go_ret
    exact ⟨by rw [Hn.out]; rfl, B1.out⟩
  have q1 : ¬ 512 < im.syms.length := by omega
  by_cases p2 : 1 ≤ im.buckets.length
  case neg =>
    have Hn : Hid (tableJ im = false) := Lib.hid (by rw [HT.out, decide_eq_false (p := 1 ≤ im.buckets.length) p2]; simp)
    have q2 : im.buckets.length < 1 := by omega
    go_enter Try.func30, Try.ntmps30
    go_wp2
    go_ret
    exact ⟨by rw [Hn.out]; rfl, B1.out⟩
  have q2 : ¬ im.buckets.length < 1 := by omega
  by_cases p3 : im.buckets.length ≤ 512
  case neg =>
    have Hn : Hid (tableJ im = false) := Lib.hid (by rw [HT.out, decide_eq_false (p := im.buckets.length ≤ 512) p3]; simp)
    have q3 : 512 < im.buckets.length := by omega
    go_enter Try.func30, Try.ntmps30
    go_wp2
    go_ret
    exact ⟨by rw [Hn.out]; rfl, B1.out⟩
  have q3 : ¬ 512 < im.buckets.length := by omega
  have Hf := Lib.hid (fun w => jfright_any w im.words wa wc im.shift (by omega))
  go_enter Try.func30, Try.ntmps30
  go_wp2_with fail
  have hz1 : w.heap.size < (w.alloc (.cells #[.slice ba im.buckets.length bcap, .slice wa im.words.length wc, .int .i64 im.shift] 32 (0, 0))).heap.size := by simp
  generalize w.alloc (.cells #[.slice ba im.buckets.length bcap, .slice wa im.words.length wc, .int .i64 im.shift] 32 (0, 0)) = w1 at *
  refine (Hf.out w1).mono ?_
  rintro e w2 ⟨rfl, hb2⟩
  have B2 := Lib.hid (B1.out.trans (hb2.mono (by omega)))
  have F2 := Lib.hid ((hb2.block _ hz1).trans F1.out)
  have hz2 := hb2.size
  clear hb2 B1 F1 Hf
  cases hsv : sieveB im.words im.shift with
  | false =>
    have Hn : Hid (tableJ im = false) := Lib.hid (by rw [HT.out, hsv]; simp)
    clear hsv
    go_wp2
    go_ret
    exact ⟨by rw [Hn.out]; rfl, B2.out⟩
  | true =>
    have Hsv := Lib.hid hsv
    clear hsv
    go_wp2_with fail
    refine (jseenl_any w2 _ im.syms ((Hs.out.below B2.out).mono B2.out.size) p1).mono ?_
    rintro e w3 ⟨r, rfl, hown, hb3⟩
    have B3 := Lib.hid (B2.out.trans (hb3.mono (by omega)))
    have F3 := Lib.hid ((hb3.block w.heap.size (by omega)).trans F2.out)
    have hz3 := hb3.size
    have hil := toInts_len (seenIx im.syms)
    have hsl : (seenIx im.syms).length ≤ 512 := by have := seenK_le im.syms im.syms.length; rw [seenIx]; omega
    obtain ⟨oa, oc, rfl⟩ := hown.form
    have hlb := hown.lb.imp (S' := (· < w3.heap.size)) (fun b h => h.1)
    obtain ⟨oa', ob, ooff, ocap', hov, hom, hoc, hoat⟩ := hlb.at
    cases hov
    rw [hil]
    have Hoat := Lib.hid hoat
    have Hil := Lib.hid (toInts_at (seenIx im.syms))
    have Hix := Lib.hid (fun k i (h : (seenIx im.syms)[k]? = some i) => (seenK_mem im.syms im.syms.length i).1 (List.mem_of_getElem? h))
    clear hb3 hown hlb hoat hom hoc F2 B2
    generalize hN : (seenIx im.syms).length = N at *
    have HN := Lib.hid hN
    clear hN
    go_wp2_with fail
    go_loopw [6, 7, 8] (fun m i _ wr => ∃ (b : Nat), i = .int .i64 b ∧ b ≤ im.buckets.length ∧ m = .int .i64 ((((lensB im).take b).sum : Nat) : Int) ∧ ((lensB im).take b).sum ≤ N ∧ (im.buckets.take b).all risingB = true ∧ Below w3.heap.size w3 wr) (fun _ i _ _ => im.buckets.length - (intOf i).toNat)
    case atStart => exact ⟨0, rfl, Nat.zero_le _, rfl, by simp, rfl, Below.refl _ _⟩
    case round =>
      obtain ⟨b, rfl, hbk, rfl, hmn, hall, hbel⟩ := hrel
      have Hall := Lib.hid hall
      have Hbel := Lib.hid hbel
      have F4 := (hbel.block w.heap.size (by omega)).trans F3.out
      have c0 : wr.cell? ⟨w.heap.size, 0, none⟩ = some (.slice ba im.buckets.length bcap) := by rw [Lib.cell_of_heap F4]; rfl
      have c1 : wr.cell? ⟨w.heap.size, 1, none⟩ = some (.slice wa im.words.length wc) := by rw [Lib.cell_of_heap F4]; rfl
      have c2 : wr.cell? ⟨w.heap.size, 2, none⟩ = some (.int .i64 im.shift) := by rw [Lib.cell_of_heap F4]; rfl
      have hzr := hbel.size
      clear hall hbel
      by_cases hlt : b < im.buckets.length
      · obtain rfl := Hbat.out.addr (by omega)
        obtain ⟨c, hc⟩ : ∃ c, im.buckets[b]? = some c := ⟨_, List.getElem?_eq_getElem hlt⟩
        have hcl := Hbl.out c (List.mem_of_getElem? hc)
        obtain ⟨cv, gc, hclb⟩ := (Hbat.out.below B3.out).ints1 b c hc
        have gc2 : wr.cell? ⟨bb, boff + b, none⟩ = some cv := (Hbel.out.cell (p := ⟨bb, boff + b, none⟩) (World.block_lt_of_cell? _ _ gc)).trans gc
        obtain ⟨ca, cb, coff, ccap, rfl, hcm, hcc, hcat⟩ := hclb.at
        have Hcat := Lib.hid hcat
        have Hsum := Lib.hid (sum_take_succ (lensB im) b c.length (by simp [lensB, hc]))
        have Hmany := Lib.hid (tableJ_many im (b + 1))
        have Hrise := Lib.hid (tableJ_rise im b c hc)
        have Hsn := Lib.hid (all_take_snoc risingB im.buckets b c hc)
        clear hc gc hclb hcat F4
        rw [Hsum.out, HN.out] at Hmany
        generalize hM : ((lensB im).take b).sum = M at *
        clear hM
        by_cases hmany : N < M + c.length
        · have Hn := Lib.hid (Hmany.out hmany)
          go_wp2
          go_ret
          exact ⟨by rw [Hn.out]; rfl, B3.out.trans (Hbel.out.mono (by omega))⟩
        have hm2 : ¬ ((N : Int) < (M : Int) + (c.length : Int)) := by omega
        go_wp2_with fail
        obtain ⟨wo, hwo⟩ : ∃ wo : World, wo = wr := ⟨_, rfl⟩
        go_loopw [8] (fun i wi => ∃ (k : Nat), i = .int .i64 (k + 1 : Nat) ∧ (k + 1 ≤ c.length ∨ k = 0) ∧ risingB (c.take (k + 1)) = true ∧ Below wo.heap.size wo wi) (fun i _ => c.length - (intOf i).toNat)
        case atStart =>
          refine ⟨0, rfl, Or.inr rfl, ?_, by rw [hwo]; exact Below.refl _ _⟩
          cases c with
          | nil => rfl
          | cons x l => simp [risingB]
        case round =>
          obtain ⟨k, rfl, hk, hri, hbi⟩ := hrel
          have Hri := Lib.hid hri
          have Hbi := Lib.hid hbi
          have d0 := (hbi.cell (by rw [hwo]; exact World.block_lt_of_cell? _ _ c0)).trans (hwo ▸ c0)
          have d1 := (hbi.cell (by rw [hwo]; exact World.block_lt_of_cell? _ _ gc2)).trans (hwo ▸ gc2)
          have hbi3 : Below w3.heap.size w3 wr := (by rw [hwo] at *; exact Hbel.out : Below w3.heap.size w3 wo).trans (hbi.mono (by rw [hwo]; omega))
          have Hbi3 := Lib.hid hbi3
          clear hri hbi hbi3
          by_cases hk2 : k + 1 < c.length
          · obtain rfl := Hcat.out.addr (by omega)
            obtain ⟨x, hx⟩ : ∃ x, c[k]? = some x := ⟨_, List.getElem?_eq_getElem (by omega)⟩
            obtain ⟨y, hy⟩ : ∃ y, c[k + 1]? = some y := ⟨_, List.getElem?_eq_getElem hk2⟩
            have gx := (Hbi3.out.cell (World.block_lt_of_cell? _ _ (Hcat.out.int1 k x hx))).trans (Hcat.out.int1 k x hx)
            have gy := (Hbi3.out.cell (World.block_lt_of_cell? _ _ (Hcat.out.int1 (k + 1) y hy))).trans (Hcat.out.int1 (k + 1) y hy)
            have hoff : coff + (k + 1) = coff + k + 1 := by omega
            rw [hoff] at gy
            have Hst := Lib.hid (fun h => rising_step c k x y hx hy h)
            have Hbadc := Lib.hid (rising_bad c (k + 2))
            clear hx hy
            by_cases hxy : x < y
            · have Hr2 : Hid (risingB (c.take (k + 1 + 1)) = true) := Lib.hid (by rw [Hst.out Hri.out]; simp [hxy])
              have hge : ¬ y ≤ x := by omega
              go_wp2_with fail
              go_quiet (fail)
              go_wp2
              go_roundw
              case rel => exact ⟨k + 1, by go_num, by omega, Hr2.out, below_drewN Hbi.out _⟩
              case measure => simp [intOf]; omega
            · have Hn := Lib.hid (Hrise.out (Hbadc.out (by rw [Hst.out Hri.out]; simp [hxy])))
              have hge : y ≤ x := by omega
              go_wp2_with fail
              go_quiet (fail)
              go_wp2
              go_ret
              exact ⟨by rw [Hn.out]; rfl, below_drewN (B3.out.trans (Hbi3.out.mono (by omega))) _⟩
          · have Hc : Hid (risingB c = true) := Lib.hid (by
              have := Hri.out
              rwa [List.take_of_length_le (by omega)] at this)
            go_wp2
            go_roundw
            case rel =>
              refine ⟨b + 1, by go_num, by omega, by rw [Hsum.out]; go_num, by rw [Hsum.out]; omega, by rw [Hsn.out, Hall.out, Hc.out]; rfl, Hbi3.out⟩
            case measure => simp [intOf]; omega
      · have Hris : Hid (im.buckets.all risingB = true) := Lib.hid (by have := Hall.out; rwa [List.take_of_length_le (by omega)] at this)
        have Hsu : Hid (((lensB im).take b).sum = (lensB im).sum) := Lib.hid (by rw [List.take_of_length_le (by simp [lensB]; omega)])
        have HF4 := Lib.hid F4
        have hM1 : ((lensB im).take b).sum ≤ 512 := by omega
        rw [Hsu.out] at hmn hM1 ⊢
        generalize hM : (lensB im).sum = M at *
        clear hM Hall F4
        go_wp2_with fail
        go_loopw [9, 10] (fun i _ wi => ∃ (k : Nat), i = .int .i64 k ∧ k ≤ N ∧ ((seenIx im.syms).take k).all (standsB im) = true ∧ Below w3.heap.size w3 wi) (fun i _ _ => N - (intOf i).toNat)
        case atStart => exact ⟨0, rfl, Nat.zero_le _, rfl, Hbel.out⟩
        case round =>
          obtain ⟨k, rfl, hk, hall, hbi⟩ := hrel
          have Hall := Lib.hid hall
          have Hbi := Lib.hid hbi
          clear hall c0 c1 c2 HF4 Hbel
          have F5 := (hbi.block w.heap.size (by omega)).trans F3.out
          have c0 : wr.cell? ⟨w.heap.size, 0, none⟩ = some (.slice ba im.buckets.length bcap) := by rw [Lib.cell_of_heap F5]; rfl
          have c1 : wr.cell? ⟨w.heap.size, 1, none⟩ = some (.slice wa im.words.length wc) := by rw [Lib.cell_of_heap F5]; rfl
          have c2 : wr.cell? ⟨w.heap.size, 2, none⟩ = some (.int .i64 im.shift) := by rw [Lib.cell_of_heap F5]; rfl
          have hzr2 := hbi.size
          clear hbi F5
          by_cases hlt2 : k < N
          · have hkN : k < (seenIx im.syms).length := by rw [HN.out]; exact hlt2
            obtain ⟨i, hi⟩ : ∃ i, (seenIx im.syms)[k]? = some i := ⟨_, List.getElem?_eq_getElem hkN⟩
            obtain ⟨hi1, hi2⟩ := Hix.out k i hi
            have hkl : k < (toInts (seenIx im.syms)).length := by rw [toInts_len]; exact hkN
            obtain rfl := Hoat.out.addr (by omega)
            have go' := Hoat.out.int1 k _ (Hil.out k i hi)
            have go1 := (Hbi.out.cell (World.block_lt_of_cell? _ _ go')).trans go'
            obtain rfl := Hsat.out.addr (by omega)
            obtain ⟨s, hx⟩ : ∃ s, im.syms[i]? = some s := ⟨_, List.getElem?_eq_getElem hi1⟩
            have hsn := symN_at hx
            obtain ⟨hok, g0', _⟩ := (Hsat.out.below B3.out).sym9 i s hx
            have g0 := (Hbi.out.cell (World.block_lt_of_cell? _ _ g0')).trans g0'
            have hnl := hok.name
            have hrange := hashB_range s.name
            have hhome := homeL_lt s.name im.buckets.length p2
            have Hst : Hid (standsB im i = (decide ((im.buckets.getD (homeL s.name im.buckets.length) []).count (i : Int) = 1) && !lacksB im.words im.shift (hashB s.name))) := Lib.hid (by rw [standsB, symHome, hsn])
            have Hbad := Lib.hid (tableJ_stand im k i hi)
            have Hsn := Lib.hid (all_take_snoc (standsB im) (seenIx im.syms) k i hi)
            obtain ⟨c, hc⟩ : ∃ c, im.buckets[homeL s.name im.buckets.length]? = some c := ⟨_, List.getElem?_eq_getElem hhome⟩
            obtain rfl := Hbat.out.addr (by omega)
            obtain ⟨cv, gc', hclb⟩ := (Hbat.out.below B3.out).ints1 _ c hc
            have gc := (Hbi.out.cell (World.block_lt_of_cell? _ _ gc')).trans gc'
            have HL := Lib.hid (fun (w' : World) (h : Below w3.heap.size w3 w') => jlacks_any w' (.slice wa im.words.length wc) im.words im.shift (hashB s.name).toNat ((Hw.out.below (B3.out.trans (h.mono (by omega)))).mono (by have := h.size; omega)) Hr.out (by omega) Hsv.out)
            have HS := Lib.hid (fun (w' : World) (h : Below w3.heap.size w3 w') => jstandsn_any w' cv c (i : Int) ((hclb.mono (by omega : w.heap.size ≤ w3.heap.size)).below h |>.mono h.size))
            have HH := Lib.hid (fun w' => jhome_any w' s.name im.buckets.length hnl p2 p3)
            have HA := Lib.hid (fun w' => jhash_any w' s.name hnl)
            rw [Int.toNat_of_nonneg hrange.1] at HL
            obtain ⟨ca, cc, rfl⟩ := hclb.form
            have Hgd : Hid (im.buckets.getD (homeL s.name im.buckets.length) [] = c) := Lib.hid (by rw [List.getD_eq_getElem?_getD, hc]; rfl)
            rw [Hgd.out] at Hst
            have hblt := World.block_lt_of_cell? _ _ gc
            have holt := World.block_lt_of_cell? _ _ go1
            clear hi hkN hkl go' hx hsn g0' hok hc gc' hclb Hgd
            generalize hashB s.name = hh at *
            generalize homeL s.name im.buckets.length = hm at *
            generalize hcn : c.count (i : Int) = cn at *
            have l0 := fun x : Later wr => x.cell c0
            have l1 := fun x : Later wr => x.cell c1
            have l2 := fun x : Later wr => x.cell c2
            have l3 := fun x : Later wr => x.cell go1
            have l4 := fun x : Later wr => x.cell gc
            clear Hr Hs
            by_cases h1 : cn = 1
            · have hd1 : ((cn : Int) != 1) = false := by rw [bne_eq_false_iff_eq]; omega
              go_wp2_with fail
              refine wp_region_later (by kernel_rfl) (by kernel_rfl) ?_
              repeat (go_big_quiet_step (first | (go_at_call 77; exact Later.call_same _ (HH.out _)) | (go_at_call 76; refine Later.call_same _ (HS.out _ ?_); exact Hbi.out.trans ((Later.h _).mono (by omega))) | (go_at_call 79; exact Later.call_same _ (HA.out _)) | (go_at_call 78; refine Later.call _ (HL.out _ ?_); exact Hbi.out.trans ((Later.h _).mono (by omega)))))
              refine wpQuiet_nil ?_
              rintro _ ⟨⟨wq, hq⟩, rfl⟩
              try simp only at hq
              have Hq := Lib.hid (Hbi.out.trans (hq.mono (by omega)))
              clear hq l0 l1 l2 l3 l4 HL HS HH HA
              cases hlk : lacksB im.words im.shift hh with
              | true =>
                have Hn := Lib.hid (Hbad.out (by rw [Hst.out, hlk]; simp))
                clear hlk
                go_wp2
                go_ret
                exact ⟨by rw [Hn.out]; rfl, B3.out.trans (Hq.out.mono (by omega))⟩
              | false =>
                have Hy : Hid (standsB im i = true) := Lib.hid (by rw [Hst.out, hlk, h1]; rfl)
                clear hlk
                go_wp2
                go_roundw
                case rel => exact ⟨k + 1, by go_num, by omega, by rw [Hsn.out, Hall.out, Hy.out]; rfl, Hq.out⟩
                case measure => simp [intOf]; omega
            · have hd1 : ((cn : Int) != 1) = true := by rw [bne_iff_ne]; omega
              have Hn := Lib.hid (Hbad.out (by rw [Hst.out, decide_eq_false (p := cn = 1) h1]; rfl))
              go_wp2_with fail
              refine wp_region_later (by kernel_rfl) (by kernel_rfl) ?_
              repeat (go_big_quiet_step (first | (go_at_call 77; exact Later.call_same _ (HH.out _)) | (go_at_call 76; refine Later.call_same _ (HS.out _ ?_); exact Hbi.out.trans ((Later.h _).mono (by omega)))))
              refine wpQuiet_nil ?_
              rintro _ ⟨⟨wq, hq⟩, rfl⟩
              try simp only at hq
              have Hq := Lib.hid (Hbi.out.trans (hq.mono (by omega)))
              clear hq l0 l1 l2 l3 l4 HL HS HH HA
              go_wp2
              go_ret
              exact ⟨by rw [Hn.out]; rfl, B3.out.trans (Hq.out.mono (by omega))⟩
          · have Hr2 : Hid (tableJ im = decide (M = N)) := Lib.hid (by
              have h := Hall.out
              rw [List.take_of_length_le (by rw [HN.out]; omega)] at h
              rw [HT.out, Hsv.out, Hris.out, h, decide_eq_true (p := im.syms.length ≤ 512) p1, decide_eq_true (p := 1 ≤ im.buckets.length) p2, decide_eq_true (p := im.buckets.length ≤ 512) p3]
              simp)
            go_wp2
            go_ret
            exact ⟨ret_bool' (by rw [Hr2.out, Bool.eq_iff_iff]; simp; omega), B3.out.trans (Hbi.out.mono (by omega))⟩

end Go.Proofs.Ytbliedldlimpgaa

namespace Go.Proofs.Ytbliedldlimpgaa
set_option linter.unusedVariables false
set_option linter.unusedSimpArgs false
open Go.RowKit

/-- what table.Right answers -/
def tableErr (im : ImgL) : Int := if tableB im = true then 0 else 80
theorem tableErr_bad {im : ImgL} (h : tableB im = false) : tableErr im = 80 := by rw [tableErr, h]; rfl
theorem tableErr_ok {im : ImgL} (h : tableB im = true) : tableErr im = 0 := by rw [tableErr, h]; rfl
abbrev chB (im : ImgL) (b : Nat) (last : Int) (l : List Int) : Bool := chainB im.syms im.words im.shift im.buckets.length b last l
abbrev chsB (im : ImgL) (b : Nat) (l : List (List Int)) : Bool := chainsB im.syms im.words im.shift im.buckets.length b l
theorem tableB_parts (im : ImgL) : tableB im = (decide (im.syms.length ≤ 512) && decide (1 ≤ im.buckets.length) && decide (im.buckets.length ≤ 512) && sieveB im.words im.shift && chsB im 0 im.buckets &&
  decide ((lensB im).sum = (seenIx im.syms).length)) := by rw [seenIx_length]; rfl
theorem chB_cons (im : ImgL) (b : Nat) (last i : Int) (l : List Int) : chB im b last (i :: l) = (decide (last < i) && entryB im b i && chB im b i l) := by unfold chB; rw [chainB]; rfl
theorem chB_low {im : ImgL} {b : Nat} {last i : Int} {l : List Int} (h : ¬ last < i) : chB im b last (i :: l) = false := by rw [chB_cons, decide_eq_false (p := last < i) h]; rfl
theorem chB_bad {im : ImgL} {b : Nat} {last i : Int} {l : List Int} (h : entryB im b i = false) : chB im b last (i :: l) = false := by rw [chB_cons, h]; simp
theorem chB_ok {im : ImgL} {b : Nat} {last i : Int} {l : List Int} (h : last < i) (h2 : entryB im b i = true) : chB im b last (i :: l) = chB im b i l := by rw [chB_cons, h2, decide_eq_true (p := last < i) h]; rfl
theorem chsB_bad {im : ImgL} {b : Nat} {c : List Int} {l : List (List Int)} (h : chB im b (-1) c = false) : chsB im b (c :: l) = false := by unfold chsB; rw [chainsB]; unfold chB at h; rw [h]; rfl
theorem chsB_ok {im : ImgL} {b : Nat} {c : List Int} {l : List (List Int)} (h : chB im b (-1) c = true) : chsB im b (c :: l) = chsB im (b + 1) l := by unfold chsB; rw [chainsB]; unfold chB at h; rw [h]; rfl
theorem entryB_far {im : ImgL} {b : Nat} {i : Int} (h : (im.syms.length : Int) ≤ i) : entryB im b i = false := by
  unfold entryB
  rw [if_neg (by omega), List.getElem?_eq_none (by omega)]
theorem entryB_at {im : ImgL} {b k : Nat} {s : SymL} (h : im.syms[k]? = some s) : entryB im b (k : Int) = (seenB s && decide (homeL s.name im.buckets.length = b) && !lacksB im.words im.shift (hashB s.name)) := by
  unfold entryB
  rw [if_neg (by omega), Int.toNat_natCast, h]

set_option maxHeartbeats 32000000 in
set_option maxRecDepth 100000 in
theorem tright_any (w : World) (im : ImgL) (vb vw vs : Value) (hb : LB kInts (· < w.heap.size) w vb im.buckets) (hw : LB kWord (· < w.heap.size) w vw im.words) (hs : LB kSym (· < w.heap.size) w vs im.syms)
    (hr : ∀ x ∈ im.words, 0 ≤ x ∧ x < 18446744073709551616) :
    Calls Try.prog 23 #[.agg #[vb, vw, .int .i64 im.shift], vs] w fun e w' => e = .returned (.int .i64 (tableErr im)) ∧ Below w.heap.size w w' := by
  obtain ⟨ba, bb, boff, bcap, rfl, hbm, hbc, hbat⟩ := hb.at
  obtain ⟨sa, sb, soff, scap, rfl, hsm, hsc, hsat⟩ := hs.at
  obtain ⟨wa, wc, hwv⟩ := hw.form
  subst hwv
  have Hw := Lib.hid hw
  have HT := Lib.hid (tableB_parts im)
  have Hbat := Lib.hid hbat
  have Hsat := Lib.hid hsat
  have Hr := Lib.hid hr
  have Hs := Lib.hid hs
  have hwm := hw.max
  have Hbad := Lib.hid (fun h => tableErr_bad (im := im) h)
  clear hb hs hw hbat hsat hr
  have B1 := Lib.hid ((Below.refl w.heap.size w).alloc (Nat.le_refl _) (.cells #[.slice ba im.buckets.length bcap, .slice wa im.words.length wc, .int .i64 im.shift] 32 (0, 0)))
  have F1 := Lib.hid (heap_alloc_new w (.cells #[.slice ba im.buckets.length bcap, .slice wa im.words.length wc, .int .i64 im.shift] 32 (0, 0)))
  by_cases p1 : im.syms.length ≤ 512
  case neg =>
    have Hn := Lib.hid (Hbad.out (by rw [HT.out, decide_eq_false (p := im.syms.length ≤ 512) p1]; simp))
    have q1 : 512 < im.syms.length := by omega
    go_enter Try.func23, Try.ntmps23
    go_wp2
    go_ret
    exact ⟨by rw [Hn.out]; rfl, B1.out⟩
  have q1 : ¬ 512 < im.syms.length := by omega
  by_cases p2 : 1 ≤ im.buckets.length
  case neg =>
    have Hn := Lib.hid (Hbad.out (by rw [HT.out, decide_eq_false (p := 1 ≤ im.buckets.length) p2]; simp))
    have q2 : im.buckets.length < 1 := by omega
    go_enter Try.func23, Try.ntmps23
    go_wp2
    go_ret
    exact ⟨by rw [Hn.out]; rfl, B1.out⟩
  have q2 : ¬ im.buckets.length < 1 := by omega
  by_cases p3 : im.buckets.length ≤ 512
  case neg =>
    have Hn := Lib.hid (Hbad.out (by rw [HT.out, decide_eq_false (p := im.buckets.length ≤ 512) p3]; simp))
    have q3 : 512 < im.buckets.length := by omega
    go_enter Try.func23, Try.ntmps23
    go_wp2
    go_ret
    exact ⟨by rw [Hn.out]; rfl, B1.out⟩
  have q3 : ¬ 512 < im.buckets.length := by omega
  have Hf := Lib.hid (fun w => sright_any w im.words wa wc im.shift (by omega))
  go_enter Try.func23, Try.ntmps23
  go_wp2_with fail
  have hz1 : w.heap.size < (w.alloc (.cells #[.slice ba im.buckets.length bcap, .slice wa im.words.length wc, .int .i64 im.shift] 32 (0, 0))).heap.size := by simp
  generalize w.alloc (.cells #[.slice ba im.buckets.length bcap, .slice wa im.words.length wc, .int .i64 im.shift] 32 (0, 0)) = w1 at *
  refine (Hf.out w1).mono ?_
  rintro e w2 ⟨rfl, hb2⟩
  have B2 := Lib.hid (B1.out.trans (hb2.mono (by omega)))
  have F2 := Lib.hid ((hb2.block _ hz1).trans F1.out)
  have hz2 := hb2.size
  clear hb2 B1 F1 Hf
  cases hsv : sieveB im.words im.shift with
  | false =>
    have Hn := Lib.hid (Hbad.out (by rw [HT.out, hsv]; simp))
    have he : sieveErr im.words im.shift = 20 := by rw [sieveErr, hsv]; rfl
    rw [he]
    clear hsv he
    go_wp2
    go_ret
    exact ⟨by rw [Hn.out]; rfl, B2.out⟩
  | true =>
    have Hsv := Lib.hid hsv
    have he : sieveErr im.words im.shift = 0 := by rw [sieveErr, hsv]; rfl
    rw [he]
    have c0 : w2.cell? ⟨w.heap.size, 0, none⟩ = some (.slice ba im.buckets.length bcap) := by rw [Lib.cell_of_heap F2.out]; rfl
    clear hsv he
    go_wp2_with fail
    go_loopw [5, 37] (fun n i wr => ∃ (b M : Nat), i = .int .i64 b ∧ b ≤ im.buckets.length ∧ n = .int .i64 (M : Int) ∧ M = ((lensB im).take b).sum ∧ M ≤ 513 * b ∧ chsB im 0 im.buckets = chsB im b (im.buckets.drop b) ∧ Below w2.heap.size w2 wr) (fun _ i _ => im.buckets.length - (intOf i).toNat)
    case atStart => exact ⟨0, 0, rfl, Nat.zero_le _, rfl, by simp, by simp, by simp, Below.refl _ _⟩
    case round =>
      obtain ⟨b, M, rfl, hbk, rfl, hM, hMb, hch, hbel⟩ := hrel
      have HM := Lib.hid hM
      have Hch := Lib.hid hch
      have Hbel := Lib.hid hbel
      have hzr := hbel.size
      have F4 := (hbel.block w.heap.size (by omega)).trans F2.out
      clear hM hch hbel c0
      by_cases hlt : b < im.buckets.length
      · obtain rfl := Hbat.out.addr (by omega)
        obtain ⟨c, hc⟩ : ∃ c, im.buckets[b]? = some c := ⟨_, List.getElem?_eq_getElem hlt⟩
        obtain ⟨cv, gc, hclb⟩ := (Hbat.out.below B2.out).ints1 b c hc
        have gc2 : wr.cell? ⟨bb, boff + b, none⟩ = some cv := (Hbel.out.cell (p := ⟨bb, boff + b, none⟩) (World.block_lt_of_cell? _ _ gc)).trans gc
        obtain ⟨ca, cb, coff, ccap, rfl, hcm, hcc, hcat⟩ := hclb.at
        have Hcat := Lib.hid hcat
        have Hsum := Lib.hid (sum_take_succ (lensB im) b c.length (by simp [lensB, hc]))
        have Hdc := Lib.hid (drop_cons im.buckets b c hc)
        have hMx : M ≤ 513 * 512 := Nat.le_trans hMb (Nat.mul_le_mul_left _ (by omega))
        clear hc gc hclb hcat F4
        go_wp2_with fail
        go_loopw [5, 8, 44] (fun n la i wi => ∃ (k : Nat) (x : Int), i = .int .i64 k ∧ k ≤ c.length ∧ n = .int .i64 ((M + k : Nat) : Int) ∧ la = .int .i64 x ∧ -1 ≤ x ∧ x ≤ 512 ∧ (k : Int) ≤ x + 1 ∧ chB im b (-1) c = chB im b x (c.drop k) ∧ Below w2.heap.size w2 wi) (fun _ _ i _ => c.length - (intOf i).toNat)
        case atStart => exact ⟨0, -1, rfl, Nat.zero_le _, rfl, rfl, by decide, by decide, by decide, by simp, Hbel.out⟩
        case round =>
          obtain ⟨k, x, rfl, hk, rfl, rfl, hx0, hx1, hkx, hcx, hbi⟩ := hrel
          have Hcx := Lib.hid hcx
          have Hbi := Lib.hid hbi
          have hzi := hbi.size
          have F5 := (hbi.block w.heap.size (by omega)).trans F2.out
          have c0 : wr.cell? ⟨w.heap.size, 0, none⟩ = some (.slice (some ⟨bb, boff, none⟩) im.buckets.length bcap) := by rw [Lib.cell_of_heap F5]; rfl
          have c1 : wr.cell? ⟨w.heap.size, 1, none⟩ = some (.slice wa im.words.length wc) := by rw [Lib.cell_of_heap F5]; rfl
          have c2 : wr.cell? ⟨w.heap.size, 2, none⟩ = some (.int .i64 im.shift) := by rw [Lib.cell_of_heap F5]; rfl
          clear hcx hbi F5
          by_cases hlt2 : k < c.length
          · obtain rfl := Hcat.out.addr (by omega)
            obtain ⟨i, hi⟩ : ∃ i, c[k]? = some i := ⟨_, List.getElem?_eq_getElem hlt2⟩
            have gi := (Hbi.out.cell (World.block_lt_of_cell? _ _ (Hcat.out.int1 k i hi))).trans (Hcat.out.int1 k i hi)
            have Hdi := Lib.hid (drop_cons c k i hi)
            have HnoC : Hid (chB im b x (i :: c.drop (k + 1)) = false → tableErr im = 80) := Lib.hid (fun h => Hbad.out (by rw [HT.out, Hch.out, Hdc.out, chsB_bad (by rw [Hcx.out, Hdi.out, h])]; simp))
            have l0 := fun y : Later wr => y.cell c0
            have l1 := fun y : Later wr => y.cell c1
            have l2 := fun y : Later wr => y.cell c2
            clear hi c0 c1 c2
            by_cases h1 : x < i
            case neg =>
              have Hn := Lib.hid (HnoC.out (chB_low h1))
              have hd1 : decide (i ≤ x) = true := by rw [decide_eq_true_eq]; omega
              go_wp2_with fail
              refine wp_region_later (by kernel_rfl) (by kernel_rfl) ?_
              repeat (go_big_quiet_step (fail))
              refine wpQuiet_nil ?_
              rintro _ ⟨⟨wq, hq⟩, rfl⟩
              try simp only at hq
              have Hq := Lib.hid hq
              clear hq
              go_wp2
              go_ret
              exact ⟨by rw [Hn.out]; rfl, B2.out.trans ((Hbi.out.trans (Hq.out.mono (by omega))).mono (by omega))⟩
            have hd1 : decide (i ≤ x) = false := by rw [decide_eq_false_iff_not]; omega
            by_cases h2 : (im.syms.length : Int) ≤ i
            case pos =>
              have Hn := Lib.hid (HnoC.out (chB_bad (entryB_far h2)))
              have hd2 : decide ((im.syms.length : Int) ≤ i) = true := by rw [decide_eq_true_eq]; exact h2
              go_wp2_with fail
              refine wp_region_later (by kernel_rfl) (by kernel_rfl) ?_
              repeat (go_big_quiet_step (fail))
              refine wpQuiet_nil ?_
              rintro _ ⟨⟨wq, hq⟩, rfl⟩
              try simp only at hq
              have Hq := Lib.hid hq
              clear hq
              go_wp2
              go_ret
              exact ⟨by rw [Hn.out]; rfl, B2.out.trans ((Hbi.out.trans (Hq.out.mono (by omega))).mono (by omega))⟩
            have hd2 : decide ((im.syms.length : Int) ≤ i) = false := by rw [decide_eq_false_iff_not]; exact h2
            obtain ⟨j, rfl⟩ : ∃ j : Nat, i = j := ⟨i.toNat, by omega⟩
            have hj : j < im.syms.length := by omega
            have hd2' : decide (im.syms.length ≤ j) = false := by rw [decide_eq_false_iff_not]; omega
            obtain rfl := Hsat.out.addr (by omega)
            obtain ⟨s, hx⟩ : ∃ s, im.syms[j]? = some s := ⟨_, List.getElem?_eq_getElem hj⟩
            have He := Lib.hid (entryB_at (b := b) hx)
            obtain ⟨hok, g0', g1', g2', g3', g4', g5', g6', g7', g8'⟩ := (Hsat.out.below B2.out).sym9 j s hx
            have hnl := hok.name
            have hrange := hashB_range s.name
            have Hlt : ∀ {p : Addr} {v : Value}, w2.cell? p = some v → wr.cell? p = some v := fun {p v} h => (Hbi.out.cell (World.block_lt_of_cell? _ _ h)).trans h
            have m0 := fun y : Later wr => y.cell (Hlt g0')
            have m1 := fun y : Later wr => y.cell (Hlt g1')
            have m2 := fun y : Later wr => y.cell (Hlt g2')
            have m3 := fun y : Later wr => y.cell (Hlt g3')
            have m4 := fun y : Later wr => y.cell (Hlt g4')
            have m5 := fun y : Later wr => y.cell (Hlt g5')
            have m6 := fun y : Later wr => y.cell (Hlt g6')
            have m7 := fun y : Later wr => y.cell (Hlt g7')
            have m8 := fun y : Later wr => y.cell (Hlt g8')
            have HS := Lib.hid (fun w' => vseen_any w' s)
            have HH := Lib.hid (fun w' => tbucket_any w' (some ⟨bb, boff, none⟩) im.buckets.length bcap (.slice wa im.words.length wc) im.shift s.name hnl p2 p3)
            have HA := Lib.hid (fun w' => shash_any w' s.name hnl)
            have HL := Lib.hid (fun (w' : World) (h : Below w2.heap.size w2 w') => slacks_any w' (.slice wa im.words.length wc) im.words im.shift (hashB s.name).toNat ((Hw.out.below (B2.out.trans (h.mono (by omega)))).mono (by have := h.size; omega)) Hr.out (by omega) Hsv.out)
            rw [Int.toNat_of_nonneg hrange.1] at HL
            clear g0' g1' g2' g3' g4' g5' g6' g7' g8' Hlt hx hok
            generalize hashB s.name = hh at *
            generalize homeL s.name im.buckets.length = hm at *
            cases hsn : seenB s with
            | false =>
              have Hn := Lib.hid (HnoC.out (chB_bad (by rw [He.out, hsn]; rfl)))
              rw [hsn] at HS
              clear hsn
              go_wp2_with fail
              refine wp_region_later (by kernel_rfl) (by kernel_rfl) ?_
              repeat (go_big_quiet_step (first | (go_at_call 61; exact Later.call _ (HS.out _))))
              refine wpQuiet_nil ?_
              rintro _ ⟨⟨wq, hq⟩, rfl⟩
              try simp only at hq
              have Hq := Lib.hid hq
              clear hq
              go_wp2
              go_ret
              exact ⟨by rw [Hn.out]; rfl, B2.out.trans ((Hbi.out.trans (Hq.out.mono (by omega))).mono (by omega))⟩
            | true =>
              rw [hsn] at HS He
              clear hsn
              by_cases h4 : hm = b
              case neg =>
                have Hn := Lib.hid (HnoC.out (chB_bad (by rw [He.out, decide_eq_false (p := hm = b) h4]; rfl)))
                have hd4 : ((hm : Int) != (b : Int)) = true := by rw [bne_iff_ne]; omega
                go_wp2_with fail
                refine wp_region_later (by kernel_rfl) (by kernel_rfl) ?_
                repeat (go_big_quiet_step (first | (go_at_call 61; exact Later.call _ (HS.out _)) | (go_at_call 62; exact Later.call _ (HH.out _))))
                refine wpQuiet_nil ?_
                rintro _ ⟨⟨wq, hq⟩, rfl⟩
                try simp only at hq
                have Hq := Lib.hid hq
                clear hq
                go_wp2
                go_ret
                exact ⟨by rw [Hn.out]; rfl, B2.out.trans ((Hbi.out.trans (Hq.out.mono (by omega))).mono (by omega))⟩
              have hd4 : ((hm : Int) != (b : Int)) = false := by rw [bne_eq_false_iff_eq]; omega
              go_wp2_with fail
              refine wp_region_later (by kernel_rfl) (by kernel_rfl) ?_
              repeat (go_big_quiet_step (first | (go_at_call 61; exact Later.call _ (HS.out _)) | (go_at_call 62; exact Later.call _ (HH.out _)) | (go_at_call 64; exact Later.call_same _ (HA.out _)) | (go_at_call 63; refine Later.call _ (HL.out _ ?_); exact Hbi.out.trans ((Later.h _).mono (by omega)))))
              refine wpQuiet_nil ?_
              rintro _ ⟨⟨wq, hq⟩, rfl⟩
              try simp only at hq
              have Hq := Lib.hid hq
              clear hq l0 l1 l2 m0 m1 m2 m3 m4 m5 m6 m7 m8 HS HH HA HL
              cases hlk : lacksB im.words im.shift hh with
              | true =>
                have Hn := Lib.hid (HnoC.out (chB_bad (by rw [He.out, hlk]; simp)))
                clear hlk
                go_wp2
                go_ret
                exact ⟨by rw [Hn.out]; rfl, B2.out.trans ((Hbi.out.trans (Hq.out.mono (by omega))).mono (by omega))⟩
              | false =>
                have Hy : Hid (chB im b (-1) c = chB im b (j : Int) (c.drop (k + 1))) := Lib.hid (by rw [Hcx.out, Hdi.out, chB_ok h1 (by rw [He.out, hlk, decide_eq_true (p := hm = b) h4]; rfl)])
                clear hlk
                go_wp2
                go_roundw
                case rel => exact ⟨k + 1, (j : Int), by go_num, by omega, by go_num, rfl, by omega, by omega, by omega, Hy.out, Hbi.out.trans (Hq.out.mono (by omega))⟩
                case measure => simp [intOf]; omega
          · have Hcc : Hid (chB im b (-1) c = true) := Lib.hid (by rw [Hcx.out, List.drop_eq_nil_of_le (by omega)]; rfl)
            have hkl : k = c.length := by omega
            have Hck : Hid (k = c.length) := Lib.hid hkl
            clear hkl c0 c1 c2
            go_wp2
            go_roundw
            case rel => exact ⟨b + 1, M + k, by go_num, by omega, by first | rfl | go_num, by rw [Hsum.out, ← HM.out, Hck.out], by omega, by rw [Hch.out, Hdc.out, chsB_ok Hcc.out], Hbi.out⟩
            case measure => simp [intOf]; omega
      · have Hcs : Hid (chsB im 0 im.buckets = true) := Lib.hid (by rw [Hch.out, List.drop_eq_nil_of_le (by omega)]; rfl)
        have Hsu : Hid (M = (lensB im).sum) := Lib.hid (by rw [HM.out, List.take_of_length_le (by simp [lensB]; omega)])
        have HR : Hid (tableB im = decide (M = (seenIx im.syms).length)) := Lib.hid (by rw [HT.out, Hcs.out, Hsv.out, Hsu.out, decide_eq_true (p := im.syms.length ≤ 512) p1, decide_eq_true (p := 1 ≤ im.buckets.length) p2, decide_eq_true (p := im.buckets.length ≤ 512) p3]; simp)
        have HO := Lib.hid (fun h => tableErr_ok (im := im) h)
        have hsl : (seenIx im.syms).length ≤ 512 := by have := seenK_le im.syms im.syms.length; rw [seenIx]; omega
        clear F4
        go_wp2_with fail
        refine (thashes_any wr _ im.syms ((Hs.out.below (B2.out.trans (Hbel.out.mono (by omega)))).mono (by omega)) p1).mono ?_
        rintro e w3 ⟨r, l, rfl, hown, hown2, hb3⟩
        have B3 := Lib.hid ((B2.out.trans (Hbel.out.mono (by omega))).trans (hb3.mono (by omega)))
        obtain ⟨oa, oc, rfl⟩ := hown.form
        obtain ⟨pa, pc, rfl⟩ := hown2.form
        rw [toInts_len]
        clear hown hown2 hb3
        generalize (seenIx im.syms).length = N at *
        by_cases hMN : M = N
        · have Hn := Lib.hid (HO.out (by rw [HR.out]; simp [hMN]))
          have hd : ((M : Int) != (N : Int)) = false := by rw [bne_eq_false_iff_eq]; omega
          go_wp2
          go_ret
          exact ⟨by rw [Hn.out]; rfl, B3.out⟩
        · have Hn := Lib.hid (Hbad.out (by rw [HR.out]; simp [hMN]))
          have hd : ((M : Int) != (N : Int)) = true := by rw [bne_iff_ne]; omega
          go_wp2
          go_ret
          exact ⟨by rw [Hn.out]; rfl, B3.out⟩

end Go.Proofs.Ytbliedldlimpgaa

namespace Go.Proofs.Ytbliedldlimpgaa
set_option linter.unusedVariables false
set_option linter.unusedSimpArgs false
open Go.RowKit

abbrev I64 (x : Int) : Prop := -9223372036854775808 ≤ x ∧ x ≤ 9223372036854775807
/-- an image's value in memory, and what it reads as: its lists lie in blocks for which S holds, its numbers are Go's -/
structure ImgM (S : Nat → Prop) (w : World) (v : ImgV) (im : ImgL) : Prop where
  name : im.name.length ≤ 9223372036854775807
  flags : I64 im.flags
  segs : LB kSeg S w v.segs im.segs
  segsR : ∀ s ∈ im.segs, I64 s.at_ ∧ I64 s.size ∧ I64 s.perm
  needed : LB kNeed S w v.needed im.needed
  runPath : LB kStr S w v.runPath im.runPath
  syms : LB kSym S w v.syms im.syms
  buckets : LB kInts S w v.buckets im.buckets
  bucketsL : ∀ c ∈ im.buckets, c.length ≤ 9223372036854775807
  words : LB kWord S w v.words im.words
  wordsR : ∀ x ∈ im.words, 0 ≤ x ∧ x < 18446744073709551616
  shift : I64 im.shift
  relocs : LB kRel S w v.relocs im.relocs
  relocsR : ∀ r ∈ im.relocs, RelOk r
  slots : LB kSlot S w v.slots im.slots
  slotsR : ∀ s ∈ im.slots, SlotOk s
  init : LB kInt S w v.init im.init
  initR : ∀ x ∈ im.init, I64 x
  fini : LB kInt S w v.fini im.fini
  finiR : ∀ x ∈ im.fini, I64 x
  tls : LB kByte S w v.tls im.tls
  tlsSize : I64 im.tlsSize
theorem ImgM.keeps {S : Nat → Prop} {w w' : World} {v : ImgV} {im : ImgL} (h : ImgM S w v im) (hk : Keeps S w w') : ImgM S w' v im :=
  ⟨h.name, h.flags, h.segs.keeps hk, h.segsR, h.needed.keeps hk, h.runPath.keeps hk, h.syms.keeps hk, h.buckets.keeps hk, h.bucketsL, h.words.keeps hk, h.wordsR, h.shift, h.relocs.keeps hk, h.relocsR, h.slots.keeps hk, h.slotsR, h.init.keeps hk, h.initR, h.fini.keeps hk, h.finiR, h.tls.keeps hk, h.tlsSize⟩
theorem ImgM.imp {S S' : Nat → Prop} {w : World} {v : ImgV} {im : ImgL} (h : ImgM S w v im) (hk : ∀ b, S b → S' b) : ImgM S' w v im :=
  ⟨h.name, h.flags, h.segs.imp hk, h.segsR, h.needed.imp hk, h.runPath.imp hk, h.syms.imp hk, h.buckets.imp hk, h.bucketsL, h.words.imp hk, h.wordsR, h.shift, h.relocs.imp hk, h.relocsR, h.slots.imp hk, h.slotsR, h.init.imp hk, h.initR, h.fini.imp hk, h.finiR, h.tls.imp hk, h.tlsSize⟩
theorem ImgM.later {w w' : World} {v : ImgV} {im : ImgL} (h : ImgM (· < w.heap.size) w v im) (hb : Below w.heap.size w w') : ImgM (· < w'.heap.size) w' v im :=
  (h.keeps (.of_below hb)).imp fun _ hb' => Nat.lt_of_lt_of_le hb' hb.size
theorem head_flags {im : ImgL} (h : headB im = true) : 0 ≤ im.flags ∧ im.flags < 16 := by
  simp only [headB, Bool.and_eq_true, decide_eq_true_eq] at h; omega
theorem syms_sizes {im : ImgL} (hg : segsB im.segs = true) (ht : tlsB im = true) (h : symsB im = true) : (∀ s ∈ im.syms, 0 ≤ s.size ∧ s.size ≤ 9223372036854775807) ∧ im.syms.length ≤ 512 := by
  have h' := h
  simp only [symsB, Bool.and_eq_true, decide_eq_true_eq] at h'
  refine ⟨fun s hs => ?_, h'.1⟩
  have := sym_good hg ht (symsFrom_each _ _ _ _ h'.2 s hs)
  omega
theorem may_head {im : ImgL} (h : headB im = false) : mayL im = 90 := by rw [mayL, if_pos h]
theorem may_segs {im : ImgL} (h1 : headB im = true) (h : segsB im.segs = false) : mayL im = 91 := by rw [mayL, h1, if_neg (by simp), if_pos h]
theorem may_tls {im : ImgL} (h1 : headB im = true) (h2 : segsB im.segs = true) (h : tlsB im = false) : mayL im = 96 := by rw [mayL, h1, if_neg (by simp), h2, if_neg (by simp), if_pos h]
theorem may_syms {im : ImgL} (h1 : headB im = true) (h2 : segsB im.segs = true) (h3 : tlsB im = true) (h : symsB im = false) : mayL im = 92 := by rw [mayL, h1, if_neg (by simp), h2, if_neg (by simp), h3, if_neg (by simp), if_pos h]
theorem may_table {im : ImgL} (h1 : headB im = true) (h2 : segsB im.segs = true) (h3 : tlsB im = true) (h4 : symsB im = true) (h : tableB im = false) : mayL im = 93 := by rw [mayL, h1, if_neg (by simp), h2, if_neg (by simp), h3, if_neg (by simp), h4, if_neg (by simp), if_pos h]
theorem may_relocs {im : ImgL} (h1 : headB im = true) (h2 : segsB im.segs = true) (h3 : tlsB im = true) (h4 : symsB im = true) (h5 : tableB im = true) (h : relocsB im = false) : mayL im = 94 := by rw [mayL, h1, if_neg (by simp), h2, if_neg (by simp), h3, if_neg (by simp), h4, if_neg (by simp), h5, if_neg (by simp), if_pos h]
theorem may_slots {im : ImgL} (h1 : headB im = true) (h2 : segsB im.segs = true) (h3 : tlsB im = true) (h4 : symsB im = true) (h5 : tableB im = true) (h6 : relocsB im = true) (h : slotsB im = false) : mayL im = 95 := by rw [mayL, h1, if_neg (by simp), h2, if_neg (by simp), h3, if_neg (by simp), h4, if_neg (by simp), h5, if_neg (by simp), h6, if_neg (by simp), if_pos h]
theorem may_runs {im : ImgL} (h1 : headB im = true) (h2 : segsB im.segs = true) (h3 : tlsB im = true) (h4 : symsB im = true) (h5 : tableB im = true) (h6 : relocsB im = true) (h7 : slotsB im = true) (h : (runB im im.init && runB im im.fini) = false) : mayL im = 97 := by rw [mayL, h1, if_neg (by simp), h2, if_neg (by simp), h3, if_neg (by simp), h4, if_neg (by simp), h5, if_neg (by simp), h6, if_neg (by simp), h7, if_neg (by simp), if_pos h]
theorem may_good {im : ImgL} (h1 : headB im = true) (h2 : segsB im.segs = true) (h3 : tlsB im = true) (h4 : symsB im = true) (h5 : tableB im = true) (h6 : relocsB im = true) (h7 : slotsB im = true) (h : (runB im im.init && runB im im.fini) = true) : mayL im = 0 := by rw [mayL, h1, if_neg (by simp), h2, if_neg (by simp), h3, if_neg (by simp), h4, if_neg (by simp), h5, if_neg (by simp), h6, if_neg (by simp), h7, if_neg (by simp), h, if_neg (by simp)]

set_option maxHeartbeats 16000000 in
set_option maxRecDepth 100000 in
theorem imay_any (w : World) (v : ImgV) (im : ImgL) (hm : ImgM (· < w.heap.size) w v im) :
    Calls Try.prog 10 #[.agg (imgCells v im)] w fun e w' => e = .returned (.int .i64 (mayL im)) ∧ Below w.heap.size w w' := by
  obtain ⟨la, lcap, hlv⟩ := hm.tls.form
  have hlm := hm.tls.max
  obtain ⟨vsegs, vneeded, vrunPath, vsyms, vbuckets, vwords, vrelocs, vslots, vinit, vfini, vtls⟩ := v
  simp only at hlv
  subst hlv
  have HM : Hid (∀ w', Below w.heap.size w w' → ImgM (· < w'.heap.size) w' ⟨vsegs, vneeded, vrunPath, vsyms, vbuckets, vwords, vrelocs, vslots, vinit, vfini, .slice la im.tls.length lcap⟩ im) := Lib.hid (fun w' hb => hm.later hb)
  clear hm
  generalize hI : (Array.mk [.string ⟨im.name.toArray⟩, .int .i64 im.flags, vsegs, vneeded, vrunPath, vsyms, vbuckets, vwords, .int .i64 im.shift, vrelocs, vslots, vinit, vfini, .slice la im.tls.length lcap, .int .i64 im.tlsSize] : Array Value) = I
  have F0 := Lib.hid (heap_alloc_new w (.cells I 38 (0, 0)))
  have B0 := Lib.hid ((Below.refl w.heap.size w).alloc (Nat.le_refl _) (.cells I 38 (0, 0)))
  have hz0 : (w.alloc (.cells I 38 (0, 0))).heap.size = w.heap.size + 1 := by simp
  subst hI
  have hcells : imgCells ⟨vsegs, vneeded, vrunPath, vsyms, vbuckets, vwords, vrelocs, vslots, vinit, vfini, .slice la im.tls.length lcap⟩ im = #[.string ⟨im.name.toArray⟩, .int .i64 im.flags, vsegs, vneeded, vrunPath, vsyms, vbuckets, vwords, .int .i64 im.shift, vrelocs, vslots, vinit, vfini, .slice la im.tls.length lcap, .int .i64 im.tlsSize] := rfl
  rw [hcells]
  clear hcells
  go_enter Try.func10, Try.ntmps10
  go_wp2_with fail
  generalize w.alloc (.cells #[.string ⟨im.name.toArray⟩, .int .i64 im.flags, vsegs, vneeded, vrunPath, vsyms, vbuckets, vwords, .int .i64 im.shift, vrelocs, vslots, vinit, vfini, .slice la im.tls.length lcap, .int .i64 im.tlsSize] 38 (0, 0)) = w0 at *
  have C1 := Lib.hid (ihead_any w0 _ im (HM.out w0 B0.out).needed (HM.out w0 B0.out).runPath (HM.out w0 B0.out).name)
  unfold imgCells at C1
  obtain ⟨i0, i1, i2, i3, i4, i5, i6, i7, i8, i9, i10, i11, i12, i13, i14⟩ := img_cells F0.out
  go_wp2_with fail
  refine C1.out.mono ?_
  rintro e w1 ⟨rfl, hb1⟩
  have hz1 := hb1.size
  have F1 := Lib.hid ((hb1.block w.heap.size (by omega)).trans F0.out)
  have B1 := Lib.hid (B0.out.trans (hb1.mono (by omega)))
  clear hb1 C1 i0 i1 i2 i3 i4 i5 i6 i7 i8 i9 i10 i11 i12 i13 i14
  cases hb : headB im with
  | false =>
    have Hr := Lib.hid (may_head hb)
    clear hb
    go_wp2
    go_ret
    exact ⟨by rw [Hr.out]; rfl, B1.out⟩
  | true =>
  have H1 := Lib.hid hb
  clear hb
  have C2 := Lib.hid (isegs_any w1 _ im (HM.out w1 B1.out).segs (fun s hs => ⟨((HM.out w1 B1.out).segsR s hs).1.1, ((HM.out w1 B1.out).segsR s hs).2.1.2⟩))
  unfold imgCells at C2
  obtain ⟨i0, i1, i2, i3, i4, i5, i6, i7, i8, i9, i10, i11, i12, i13, i14⟩ := img_cells F1.out
  go_wp2_with fail
  refine C2.out.mono ?_
  rintro e w2 ⟨rfl, hb2⟩
  have hz2 := hb2.size
  have F2 := Lib.hid ((hb2.block w.heap.size (by omega)).trans F1.out)
  have B2 := Lib.hid (B1.out.trans (hb2.mono (by omega)))
  clear hb2 C2 i0 i1 i2 i3 i4 i5 i6 i7 i8 i9 i10 i11 i12 i13 i14
  cases hb : segsB im.segs with
  | false =>
    have Hr := Lib.hid (may_segs H1.out hb)
    clear hb
    go_wp2
    go_ret
    exact ⟨by rw [Hr.out]; rfl, B2.out⟩
  | true =>
  have H2 := Lib.hid hb
  clear hb
  obtain ⟨i0, i1, i2, i3, i4, i5, i6, i7, i8, i9, i10, i11, i12, i13, i14⟩ := img_cells F2.out
  clear i0 i1 i2 i3 i4 i5 i6 i7 i8 i9 i10 i11 i12
  have HD : Hid (tlsB im = (decide (0 ≤ im.tlsSize) && decide (im.tlsSize ≤ 4096) && decide ((im.tls.length : Int) ≤ im.tlsSize))) := Lib.hid rfl
  by_cases t0 : 0 ≤ im.tlsSize
  case neg =>
    have hb : tlsB im = false := by rw [HD.out, decide_eq_false (p := 0 ≤ im.tlsSize) t0]; simp
    have Hr := Lib.hid (may_tls H1.out H2.out hb)
    clear hb
    have hd0 : decide (im.tlsSize < 0) = true := by rw [decide_eq_true_eq]; omega
    go_wp2
    go_ret
    exact ⟨by rw [Hr.out]; rfl, B2.out⟩
  have hd0 : decide (im.tlsSize < 0) = false := by rw [decide_eq_false_iff_not]; omega
  by_cases t1 : im.tlsSize ≤ 4096
  case neg =>
    have hb : tlsB im = false := by rw [HD.out, decide_eq_false (p := im.tlsSize ≤ 4096) t1]; simp
    have Hr := Lib.hid (may_tls H1.out H2.out hb)
    clear hb
    have hd1 : decide (4096 < im.tlsSize) = true := by rw [decide_eq_true_eq]; omega
    go_wp2
    go_ret
    exact ⟨by rw [Hr.out]; rfl, B2.out⟩
  have hd1 : decide (4096 < im.tlsSize) = false := by rw [decide_eq_false_iff_not]; omega
  by_cases t2 : (im.tls.length : Int) ≤ im.tlsSize
  case neg =>
    have hb : tlsB im = false := by rw [HD.out, decide_eq_false (p := (im.tls.length : Int) ≤ im.tlsSize) t2]; simp
    have Hr := Lib.hid (may_tls H1.out H2.out hb)
    clear hb
    have hd2 : decide (im.tlsSize < (im.tls.length : Int)) = true := by rw [decide_eq_true_eq]; omega
    go_wp2
    go_ret
    exact ⟨by rw [Hr.out]; rfl, B2.out⟩
  have hd2 : decide (im.tlsSize < (im.tls.length : Int)) = false := by rw [decide_eq_false_iff_not]; omega
  have H3 : Hid (tlsB im = true) := Lib.hid (by rw [HD.out, decide_eq_true (p := 0 ≤ im.tlsSize) t0, decide_eq_true (p := im.tlsSize ≤ 4096) t1, decide_eq_true (p := (im.tls.length : Int) ≤ im.tlsSize) t2]; rfl)
  have htl : 0 ≤ im.tlsSize ∧ im.tlsSize ≤ 4096 := ⟨t0, t1⟩
  have C4 := Lib.hid (isyms_any w2 _ im (HM.out w2 B2.out).segs (segOk_of H2.out) (HM.out w2 B2.out).syms htl)
  unfold imgCells at C4
  obtain ⟨i0, i1, i2, i3, i4, i5, i6, i7, i8, i9, i10, i11, i12, i13, i14⟩ := img_cells F2.out
  go_wp2_with fail
  refine C4.out.mono ?_
  rintro e w3 ⟨rfl, hb3⟩
  have hz3 := hb3.size
  have F3 := Lib.hid ((hb3.block w.heap.size (by omega)).trans F2.out)
  have B3 := Lib.hid (B2.out.trans (hb3.mono (by omega)))
  clear hb3 C4 i0 i1 i2 i3 i4 i5 i6 i7 i8 i9 i10 i11 i12 i13 i14
  cases hb : symsB im with
  | false =>
    have Hr := Lib.hid (may_syms H1.out H2.out H3.out hb)
    clear hb
    go_wp2
    go_ret
    exact ⟨by rw [Hr.out]; rfl, B3.out⟩
  | true =>
  have H4 := Lib.hid hb
  clear hb
  have C5 := Lib.hid (tright_any w3 im _ _ _ (HM.out w3 B3.out).buckets (HM.out w3 B3.out).words (HM.out w3 B3.out).syms (HM.out w3 B3.out).wordsR)
  obtain ⟨i0, i1, i2, i3, i4, i5, i6, i7, i8, i9, i10, i11, i12, i13, i14⟩ := img_cells F3.out
  go_wp2_with fail
  refine C5.out.mono ?_
  rintro e w4 ⟨rfl, hb4⟩
  have hz4 := hb4.size
  have F4 := Lib.hid ((hb4.block w.heap.size (by omega)).trans F3.out)
  have B4 := Lib.hid (B3.out.trans (hb4.mono (by omega)))
  clear hb4 C5 i0 i1 i2 i3 i4 i5 i6 i7 i8 i9 i10 i11 i12 i13 i14
  cases hb : tableB im with
  | false =>
    have Hr := Lib.hid (may_table H1.out H2.out H3.out H4.out hb)
    rw [tableErr_bad hb]
    clear hb
    go_wp2
    go_ret
    exact ⟨by rw [Hr.out]; rfl, B4.out⟩
  | true =>
  have H5 := Lib.hid hb
  rw [tableErr_ok hb]
  clear hb
  have C6 := Lib.hid (irelocs_any w4 _ im (HM.out w4 B4.out).segs H2.out (HM.out w4 B4.out).syms (head_flags H1.out) (HM.out w4 B4.out).relocs (HM.out w4 B4.out).relocsR (syms_sizes H2.out H3.out H4.out).1 (syms_sizes H2.out H3.out H4.out).2)
  unfold imgCells at C6
  obtain ⟨i0, i1, i2, i3, i4, i5, i6, i7, i8, i9, i10, i11, i12, i13, i14⟩ := img_cells F4.out
  go_wp2_with fail
  refine C6.out.mono ?_
  rintro e w5 ⟨rfl, hb5⟩
  have hz5 := hb5.size
  have F5 := Lib.hid ((hb5.block w.heap.size (by omega)).trans F4.out)
  have B5 := Lib.hid (B4.out.trans (hb5.mono (by omega)))
  clear hb5 C6 i0 i1 i2 i3 i4 i5 i6 i7 i8 i9 i10 i11 i12 i13 i14
  cases hb : relocsB im with
  | false =>
    have Hr := Lib.hid (may_relocs H1.out H2.out H3.out H4.out H5.out hb)
    clear hb
    go_wp2
    go_ret
    exact ⟨by rw [Hr.out]; rfl, B5.out⟩
  | true =>
  have H6 := Lib.hid hb
  clear hb
  have C7 := Lib.hid (islots_any w5 _ im (HM.out w5 B5.out).segs H2.out (HM.out w5 B5.out).syms (HM.out w5 B5.out).relocs (HM.out w5 B5.out).relocsR H6.out (syms_sizes H2.out H3.out H4.out).1 (syms_sizes H2.out H3.out H4.out).2 (HM.out w5 B5.out).slots (HM.out w5 B5.out).slotsR)
  unfold imgCells at C7
  obtain ⟨i0, i1, i2, i3, i4, i5, i6, i7, i8, i9, i10, i11, i12, i13, i14⟩ := img_cells F5.out
  go_wp2_with fail
  refine C7.out.mono ?_
  rintro e w6 ⟨rfl, hb6⟩
  have hz6 := hb6.size
  have F6 := Lib.hid ((hb6.block w.heap.size (by omega)).trans F5.out)
  have B6 := Lib.hid (B5.out.trans (hb6.mono (by omega)))
  clear hb6 C7 i0 i1 i2 i3 i4 i5 i6 i7 i8 i9 i10 i11 i12 i13 i14
  cases hb : slotsB im with
  | false =>
    have Hr := Lib.hid (may_slots H1.out H2.out H3.out H4.out H5.out H6.out hb)
    clear hb
    go_wp2
    go_ret
    exact ⟨by rw [Hr.out]; rfl, B6.out⟩
  | true =>
  have H7 := Lib.hid hb
  clear hb
  have C8 := Lib.hid (iruns_any w6 _ im (HM.out w6 B6.out).segs (segOk_of H2.out) (HM.out w6 B6.out).init (HM.out w6 B6.out).fini (HM.out w6 B6.out).initR (HM.out w6 B6.out).finiR)
  unfold imgCells at C8
  obtain ⟨i0, i1, i2, i3, i4, i5, i6, i7, i8, i9, i10, i11, i12, i13, i14⟩ := img_cells F6.out
  go_wp2_with fail
  refine C8.out.mono ?_
  rintro e w7 ⟨rfl, hb7⟩
  have hz7 := hb7.size
  have F7 := Lib.hid ((hb7.block w.heap.size (by omega)).trans F6.out)
  have B7 := Lib.hid (B6.out.trans (hb7.mono (by omega)))
  clear hb7 C8 i0 i1 i2 i3 i4 i5 i6 i7 i8 i9 i10 i11 i12 i13 i14
  cases hb : (runB im im.init && runB im im.fini) with
  | false =>
    have Hr := Lib.hid (may_runs H1.out H2.out H3.out H4.out H5.out H6.out H7.out hb)
    clear hb
    go_wp2
    go_ret
    exact ⟨by rw [Hr.out]; rfl, B7.out⟩
  | true =>
  have H8 := Lib.hid hb
  clear hb
  have Hr := Lib.hid (may_good H1.out H2.out H3.out H4.out H5.out H6.out H7.out H8.out)
  go_wp2
  go_ret
  exact ⟨by rw [Hr.out]; rfl, B7.out⟩

end Go.Proofs.Ytbliedldlimpgaa
