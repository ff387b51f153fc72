/- Lemmas that the claim is proved from: what calls of functions of the program come to (contracts), and plain laws. Each lemma bears its own conditions. -/
import Derived.Test.YtbliedldlimpgaaBas7
import Derived.Deep.DeepCutAuto

namespace Go.Proofs.Ytbliedldlimpgaa
set_option linter.unusedVariables false
set_option linter.unusedSimpArgs false
open Go.RowKit

theorem val_bool {a b : Bool} (h : a = b) : Value.bool a = .bool b := by rw [h]
/-- the head's first tests -/
def head0 (im : ImgL) : Bool := (decide (im.name = []) || nameB im.name) && decide (0 ≤ im.flags) && decide (im.flags < 16) && decide (im.needed.length ≤ 16) && decide (im.runPath.length ≤ 16)
theorem headB_parts (im : ImgL) : headB im = (head0 im && im.needed.all needB && im.runPath.all sizedB) := rfl
def need0 (n : NeedL) : Bool := sizedB n.name && decide (n.versions.length ≤ 16)
theorem needB_parts (n : NeedL) : needB n = (need0 n && n.versions.all nameB) := rfl
theorem all_take_snoc {α : Type} (f : α → Bool) (l : List α) (k : Nat) (x : α) (hx : l[k]? = some x) : (l.take (k + 1)).all f = ((l.take k).all f && f x) := by
  obtain ⟨h, rfl⟩ := List.getElem?_eq_some_iff.1 hx
  rw [List.take_succ_eq_append_getElem h, List.all_append]
  simp

set_option maxHeartbeats 16000000 in
set_option maxRecDepth 100000 in
theorem ihead_any (w : World) (v : ImgV) (im : ImgL) (hne : LB kNeed (· < w.heap.size) w v.needed im.needed) (hrp : LB kStr (· < w.heap.size) w v.runPath im.runPath) (hz : im.name.length ≤ 9223372036854775807) :
    Calls Try.prog 20 #[.agg (imgCells v im)] w fun e w' => e = .returned (.bool (headB im)) ∧ Below w.heap.size w w' := by
  have hsn := size_mk im.name
  unfold imgCells
  obtain ⟨na, nb, noff, ncap, hnv, hnm, hnc, hnat⟩ := hne.at
  obtain ⟨ra, rb, roff, rcap, hrv, hrm, hrc, hrat⟩ := hrp.at
  rw [hnv, hrv]
  have B1 := Lib.hid ((Below.refl w.heap.size w).alloc (Nat.le_refl _) (.cells #[.string ⟨im.name.toArray⟩, .int .i64 im.flags, v.segs, .slice na im.needed.length ncap, .slice ra im.runPath.length rcap, v.syms, v.buckets, v.words, .int .i64 im.shift, v.relocs, v.slots, v.init, v.fini, v.tls, .int .i64 im.tlsSize] 38 (0, 0)))
  have F1 := Lib.hid (heap_alloc_new w (.cells #[.string ⟨im.name.toArray⟩, .int .i64 im.flags, v.segs, .slice na im.needed.length ncap, .slice ra im.runPath.length rcap, v.syms, v.buckets, v.words, .int .i64 im.shift, v.relocs, v.slots, v.init, v.fini, v.tls, .int .i64 im.tlsSize] 38 (0, 0)))
  have Hnat := Lib.hid hnat
  have Hrat := Lib.hid hrat
  have Hh : Hid (headB im = (head0 im && im.needed.all needB && im.runPath.all sizedB)) := Lib.hid rfl
  have H0 : Hid (head0 im = ((decide (im.name = []) || nameB im.name) && decide (0 ≤ im.flags) && decide (im.flags < 16) && decide (im.needed.length ≤ 16) && decide (im.runPath.length ≤ 16))) := Lib.hid rfl
  clear hne hrp hnat hrat hnv hrv
  go_enter Try.func20, Try.ntmps20
  go_upto_region 1 with fail
  go_cut [3] (fun s3 wx => s3 = .bool (head0 im) ∧ Below w.heap.size w wx ∧ wx.heap[w.heap.size]? = some (.cells #[.string ⟨im.name.toArray⟩, .int .i64 im.flags, v.segs, .slice na im.needed.length ncap, .slice ra im.runPath.length rcap, v.syms, v.buckets, v.words, .int .i64 im.shift, v.relocs, v.slots, v.init, v.fini, v.tls, .int .i64 im.tlsSize] 38 (0, 0)))
  case first =>
    cases hq : im.name.isEmpty with
    | true =>
      have Hv := Lib.hid (List.isEmpty_iff.1 hq)
      go_wp2_with fail
      all_goals go_meet
      all_goals first
        | (refine ⟨val_bool ?_, B1.out, F1.out⟩; rw [H0.out, Bool.eq_iff_iff]; simp [Hv.out]; done)
        | (refine ⟨val_bool ?_, B1.out, F1.out⟩; rw [H0.out, Bool.eq_iff_iff]; simp [Hv.out]; omega)
    | false =>
      have Hv : Hid (decide (im.name = []) = false) := Lib.hid (by rw [decide_eq_false_iff_not]; intro e; rw [e] at hq; simp at hq)
      go_wp2_with fail
      refine (vname_any _ im.name hz).mono ?_
      rintro e w2 ⟨rfl, hb2⟩
      have F2 := Lib.hid ((hb2.block w.heap.size (by simp)).trans F1.out)
      have B2 := Lib.hid (B1.out.trans (hb2.mono B1.out.size))
      clear hb2
      obtain ⟨c0, c1, c2, c3, c4, c5, c6, c7, c8, c9, c10, c11, c12, c13, c14⟩ := img_cells F2.out
      cases hn : nameB im.name
      all_goals
        have Hn := Lib.hid hn
        go_wp2_with fail
        all_goals go_meet
        all_goals first
          | (refine ⟨val_bool ?_, B2.out, F2.out⟩; rw [H0.out, Bool.eq_iff_iff]; simp [Hv.out, Hn.out]; done)
          | (refine ⟨val_bool ?_, B2.out, F2.out⟩; rw [H0.out, Bool.eq_iff_iff]; simp [Hv.out, Hn.out]; omega)
  case rest =>
    obtain ⟨rfl, hbw, hfw⟩ := hcut
    have Bw := Lib.hid hbw
    have Fw := Lib.hid hfw
    obtain ⟨c0, c1, c2, c3, c4, c5, c6, c7, c8, c9, c10, c11, c12, c13, c14⟩ := img_cells hfw
    clear hbw hfw c0 c1 c2 c5 c6 c7 c8 c9 c10 c11 c12 c13 c14 H0 B1 F1
    generalize head0 im = h0 at *
    go_wp2_with fail
    go_loopw [3, 43] (fun s3 i wr => ∃ k : Nat, i = .int .i64 k ∧ k ≤ im.needed.length ∧ s3 = .bool (h0 && (im.needed.take k).all needB) ∧ Below w.heap.size w wr ∧ wr.heap[w.heap.size]? = some (.cells #[.string ⟨im.name.toArray⟩, .int .i64 im.flags, v.segs, .slice na im.needed.length ncap, .slice ra im.runPath.length rcap, v.syms, v.buckets, v.words, .int .i64 im.shift, v.relocs, v.slots, v.init, v.fini, v.tls, .int .i64 im.tlsSize] 38 (0, 0))) (fun _ i _ => im.needed.length - (intOf i).toNat)
    case atStart => exact ⟨0, rfl, Nat.zero_le _, by simp, Bw.out, Fw.out⟩
    case round =>
      obtain ⟨k, rfl, hk, rfl, hbel, hf⟩ := hrel
      have Hbel := Lib.hid hbel
      have Hf := Lib.hid hf
      have hBr := hbel.size
      have hzq : w.heap.size < wr.heap.size := by
        rcases Nat.lt_or_ge w.heap.size wr.heap.size with h' | h'
        · exact h'
        · rw [Array.getElem?_eq_none h'] at hf; cases hf
      by_cases hlt : k < im.needed.length
      · obtain rfl := Hnat.out.addr (by omega)
        obtain ⟨n, hx⟩ : ∃ n, im.needed[k]? = some n := ⟨_, List.getElem?_eq_getElem hlt⟩
        have hnbS := Hnat.out.inS (by omega)
        obtain ⟨c, g0w, g1w, hver, hnz⟩ := Hnat.out.need2 k n hx
        have g0 := (hbel.cell (p := ⟨nb, noff + k * 2, none⟩) hnbS).trans g0w
        have g1 := (hbel.cell (p := ⟨nb, noff + k * 2 + 1, none⟩) hnbS).trans g1w
        clear g0w g1w
        obtain ⟨va, vb, voff, vcap, rfl, hvm, hvc, hvat⟩ := hver.at
        have Hvat := Lib.hid hvat
        have Hsn := Lib.hid (all_take_snoc needB im.needed k n hx)
        have hsz2 := size_mk n.name
        have Hn0 : Hid (need0 n = (decide (1 ≤ n.name.length) && decide (n.name.length ≤ 200) && decide (n.versions.length ≤ 16))) := Lib.hid rfl
        have Hnp : Hid (needB n = (need0 n && n.versions.all nameB)) := Lib.hid rfl
        clear hbel hf hver hvat hx
        generalize hok : (h0 && (im.needed.take k).all needB) = ok at *
        have Hok := Lib.hid hok
        clear hok
        go_upto_region 5 with fail
        go_cut [3] (fun s3 wx => s3 = .bool (ok && need0 n) ∧ wx = wr.alloc (.cells #[.string ⟨n.name.toArray⟩, .slice va n.versions.length vcap] 81 (0, 0)))
        case first =>
          cases ok with
          | false =>
            go_wp2_with fail
            go_meet
            exact ⟨rfl, rfl⟩
          | true =>
            go_wp2_with fail
            all_goals go_meet
            all_goals first
              | (refine ⟨val_bool ?_, rfl⟩; rw [Hn0.out, Bool.eq_iff_iff]; simp; done)
              | (refine ⟨val_bool ?_, rfl⟩; rw [Hn0.out, Bool.eq_iff_iff]; simp; omega)
        case rest =>
          obtain ⟨rfl, hwx⟩ := hcut
          have Bc : Hid (Below w.heap.size w wc) := Lib.hid (by rw [hwx]; exact Hbel.out.alloc hBr _)
          have Fc : Hid (wc.heap[w.heap.size]? = some (.cells #[.string ⟨im.name.toArray⟩, .int .i64 im.flags, v.segs, .slice (some ⟨nb, noff, none⟩) im.needed.length ncap, .slice ra im.runPath.length rcap, v.syms, v.buckets, v.words, .int .i64 im.shift, v.relocs, v.slots, v.init, v.fini, v.tls, .int .i64 im.tlsSize] 38 (0, 0))) := Lib.hid (by rw [hwx, Lib.alloc_old _ _ _ hzq]; exact Hf.out)
          have d1 : wc.cell? ⟨wr.heap.size, 1, none⟩ = some (.slice va n.versions.length vcap) := by
            rw [hwx, Lib.cell_of_heap (heap_alloc_new wr _)]; rfl
          clear hwx Hbel Hf hBr hzq g0 g1
          generalize wr.heap.size = b5 at *
          generalize hok2 : (ok && need0 n) = ok2 at *
          have Hok2 := Lib.hid hok2
          clear hok2
          go_wp2_with fail
          go_loopw [3, 69] (fun s3 j wi => ∃ q : Nat, j = .int .i64 q ∧ q ≤ n.versions.length ∧ s3 = .bool (ok2 && (n.versions.take q).all nameB) ∧ Below w.heap.size w wi ∧ wi.heap[w.heap.size]? = some (.cells #[.string ⟨im.name.toArray⟩, .int .i64 im.flags, v.segs, .slice (some ⟨nb, noff, none⟩) im.needed.length ncap, .slice ra im.runPath.length rcap, v.syms, v.buckets, v.words, .int .i64 im.shift, v.relocs, v.slots, v.init, v.fini, v.tls, .int .i64 im.tlsSize] 38 (0, 0))) (fun _ j _ => n.versions.length - (intOf j).toNat)
          case atStart => exact ⟨0, rfl, Nat.zero_le _, by simp, Bc.out, Fc.out⟩
          case round =>
            obtain ⟨q, rfl, hq, rfl, hbel, hf⟩ := hrel
            have Hbel := Lib.hid hbel
            have Hf := Lib.hid hf
            by_cases hlt2 : q < n.versions.length
            · obtain rfl := Hvat.out.addr (by omega)
              obtain ⟨y, hy⟩ : ∃ y, n.versions[q]? = some y := ⟨_, List.getElem?_eq_getElem hlt2⟩
              obtain ⟨hv2, hyz⟩ := (Hvat.out.below hbel).str1 q y hy
              have Hsy := Lib.hid (all_take_snoc nameB n.versions q y hy)
              clear hbel hf hy
              generalize hok3 : (ok2 && (n.versions.take q).all nameB) = ok3 at *
              have Hok3 := Lib.hid hok3
              clear hok3
              cases ok3 with
              | false =>
                go_wp2
                go_roundw
                case rel => exact ⟨q + 1, by go_num, by omega, val_bool (by rw [Hsy.out, ← Bool.and_assoc, Hok3.out]; rfl), Hbel.out, Hf.out⟩
                case measure => simp [intOf]; omega
              | true =>
                have hzi : w.heap.size ≤ wr.heap.size := Hbel.out.size
                have hzi2 : w.heap.size < wr.heap.size := by
                  rcases Nat.lt_or_ge w.heap.size wr.heap.size with h' | h'
                  · exact h'
                  · have := Hf.out; rw [Array.getElem?_eq_none h'] at this; cases this
                go_wp2_with fail
                refine (vname_any _ y hyz).mono ?_
                rintro e w5 ⟨rfl, hb5⟩
                have B5 := Lib.hid (Hbel.out.trans (hb5.mono hzi))
                have F5 := Lib.hid ((hb5.block w.heap.size hzi2).trans Hf.out)
                clear hb5
                go_wp2
                go_roundw
                case rel => exact ⟨q + 1, by go_num, by omega, val_bool (by rw [Hsy.out, ← Bool.and_assoc, Hok3.out]; rfl), B5.out, F5.out⟩
                case measure => simp [intOf]; omega
            · have Hall : Hid (n.versions.take q = n.versions) := Lib.hid (List.take_of_length_le (by omega))
              clear hbel hf
              go_wp2
              go_roundw
              case rel => exact ⟨k + 1, by go_num, by omega, val_bool (by rw [Hsn.out, Hnp.out, ← Hok2.out, ← Hok.out, Hall.out]; simp [Bool.and_assoc]), Hbel.out, Hf.out⟩
              case measure => simp [intOf]; omega
      · have hf2 := hf
        obtain ⟨c0, c1, c2, c3, c4, c5, c6, c7, c8, c9, c10, c11, c12, c13, c14⟩ := img_cells hf
        have Hall : Hid (im.needed.take k = im.needed) := Lib.hid (List.take_of_length_le (by omega))
        rw [Hall.out]
        generalize hok : (h0 && im.needed.all needB) = ok at *
        have Hok := Lib.hid hok
        clear hbel hf hf2 hok c0 c1 c2 c3 c5 c6 c7 c8 c9 c10 c11 c12 c13 c14
        go_wp2_with fail
        go_loop [3, 83] (fun s3 i => ∃ q : Nat, i = .int .i64 q ∧ q ≤ im.runPath.length ∧ s3 = .bool (ok && (im.runPath.take q).all sizedB)) (fun _ i => im.runPath.length - (intOf i).toNat)
        case atStart => exact ⟨0, rfl, Nat.zero_le _, by simp⟩
        case round =>
          obtain ⟨q, rfl, hq, rfl⟩ := hrel
          by_cases hlt2 : q < im.runPath.length
          · obtain rfl := Hrat.out.addr (by omega)
            obtain ⟨y, hy⟩ : ∃ y, im.runPath[q]? = some y := ⟨_, List.getElem?_eq_getElem hlt2⟩
            obtain ⟨hv2, hyz⟩ := (Hrat.out.below Hbel.out).str1 q y hy
            have Hsy := Lib.hid (all_take_snoc sizedB im.runPath q y hy)
            have hszy := size_mk y
            have Hsz : Hid (sizedB y = (decide (1 ≤ y.length) && decide (y.length ≤ 200))) := Lib.hid rfl
            clear hy
            generalize hok3 : (ok && (im.runPath.take q).all sizedB) = ok3 at *
            have Hok3 := Lib.hid hok3
            clear hok3
            cases ok3 with
            | false =>
              go_wp2
              go_round
              case rel => exact ⟨q + 1, by go_num, by omega, val_bool (by rw [Hsy.out, ← Bool.and_assoc, Hok3.out]; rfl)⟩
              case measure => simp [intOf]; omega
            | true =>
              by_cases hy1 : 1 ≤ y.length
              · have hd1 : decide (1 ≤ (y.length : Int)) = true := by rw [decide_eq_true_eq]; omega
                by_cases hy2 : y.length ≤ 200
                · have hd2 : decide ((y.length : Int) ≤ 200) = true := by rw [decide_eq_true_eq]; omega
                  go_wp2
                  go_round
                  case rel => exact ⟨q + 1, by go_num, by omega, val_bool (by rw [Hsy.out, ← Bool.and_assoc, Hok3.out, Hsz.out]; simp [hy1, hy2])⟩
                  case measure => simp [intOf]; omega
                · have hd2 : decide ((y.length : Int) ≤ 200) = false := by rw [decide_eq_false_iff_not]; omega
                  go_wp2
                  go_round
                  case rel => exact ⟨q + 1, by go_num, by omega, val_bool (by rw [Hsy.out, ← Bool.and_assoc, Hok3.out, Hsz.out]; simp [hy2])⟩
                  case measure => simp [intOf]; omega
              · have hd1 : decide (1 ≤ (y.length : Int)) = false := by rw [decide_eq_false_iff_not]; omega
                go_wp2
                go_round
                case rel => exact ⟨q + 1, by go_num, by omega, val_bool (by rw [Hsy.out, ← Bool.and_assoc, Hok3.out, Hsz.out]; simp [hy1])⟩
                case measure => simp [intOf]; omega
          · have Hall2 : Hid (im.runPath.take q = im.runPath) := Lib.hid (List.take_of_length_le (by omega))
            go_wp2
            go_ret
            exact ⟨ret_bool' (by rw [Hh.out, Hall2.out]), Hbel.out⟩

end Go.Proofs.Ytbliedldlimpgaa

namespace Go.Proofs.Ytbliedldlimpgaa
set_option linter.unusedVariables false
set_option linter.unusedSimpArgs false
open Go.RowKit

set_option maxHeartbeats 8000000 in
set_option maxRecDepth 100000 in
theorem jstands_any (w : World) (v : ImgV) (im : ImgL) (at_ n p : Int) (hs : LB kSeg (· < w.heap.size) w v.segs im.segs) (hok : ∀ s ∈ im.segs, SegOk s)
    (ha : -9223372036854775808 ≤ at_ ∧ at_ ≤ 9223372036854775807) (hn : 0 ≤ n ∧ n ≤ 9223372036854775807) (hp : p = 0 ∨ p = 2 ∨ p = 4) :
    Calls Try.prog 17 #[.agg (imgCells v im), .int .i64 at_, .int .i64 n, .int .i64 p] w fun e w' => e = .returned (.bool (holdsB im.segs at_ n p)) ∧ Below w.heap.size w w' := by
  rw [holdsB_any]
  unfold imgCells
  obtain ⟨sa, sb, soff, scap, hsv, hsm, hsc, hat⟩ := hs.at
  rw [hsv]
  have Hat := Lib.hid hat
  have Hok := Lib.hid hok
  have Hp := Lib.hid hp
  clear hs hat hok hp hsv
  go_enter Try.func17, Try.ntmps17
  go_wp2
  go_loopw [9] (fun i wr => ∃ (k : Nat), i = .int .i64 k ∧ k ≤ im.segs.length ∧ (im.segs.take k).any (fun s => holdB s at_ n p) = false ∧ Below w.heap.size w wr ∧ wr.cell? ⟨w.heap.size, 2, none⟩ = some (.slice sa im.segs.length scap) ∧ w.heap.size < wr.heap.size) (fun i _ => im.segs.length - (intOf i).toNat)
  case atStart => exact ⟨0, rfl, Nat.zero_le _, rfl, (Below.refl _ _).alloc (Nat.le_refl _) _, by simp, by simp⟩
  case round =>
    obtain ⟨k, rfl, hk, hno, hbel, hq, hzq⟩ := hrel
    have Hno := Lib.hid hno
    have Hbel := Lib.hid hbel
    have Hq := Lib.hid hq
    have hBr := hbel.size
    by_cases hlt : k < im.segs.length
    · obtain rfl := Hat.out.addr (by omega)
      obtain ⟨s, hx⟩ : ∃ s, im.segs[k]? = some s := ⟨_, List.getElem?_eq_getElem hlt⟩
      obtain ⟨c, g0, g1, g2, g3, hc⟩ := (Hat.out.below hbel).seg4 k s hx
      obtain ⟨ca, cc, rfl⟩ := hc.form
      clear hc
      obtain ⟨o1, o2, o3, o4, o5, o6⟩ := Hok.out s (List.mem_of_getElem? hx)
      have hpb := permB_bits s.perm p o5 o6 Hp.out
      have Hhit : Hid (holdB s at_ n p = true → im.segs.any (fun s => holdB s at_ n p) = true) := Lib.hid (any_hit (fun s => holdB s at_ n p) _ k s hx)
      have Hmiss : Hid (holdB s at_ n p = false → (im.segs.take (k + 1)).any (fun s => holdB s at_ n p) = false) := Lib.hid (any_take_succ (fun s => holdB s at_ n p) _ k s hx Hno.out)
      have Hd : Hid (holdB s at_ n p = (decide (s.at_ ≤ at_) && decide (n ≤ s.size) && decide (at_ - s.at_ ≤ s.size - n) && permB s.perm p)) := Lib.hid rfl
      clear hno hbel hx
      generalize holdB s at_ n p = hb at *
      generalize s.at_ = sat at *
      generalize s.size = ssz at *
      generalize s.perm = spm at *
      generalize permB spm p = pb at *
      cases pb with
      | false =>
        have Hm := Lib.hid (Hmiss.out (by rw [Hd.out]; simp))
        go_wp2
        go_roundw
        case rel => exact ⟨k + 1, by go_num, by omega, Hm.out, Hbel.out.alloc hBr _, by rw [World.cell?_alloc_lt _ _ _ hzq]; exact Hq.out, by simp; omega⟩
        case measure => simp [intOf]; omega
      | true =>
        by_cases h1 : sat ≤ at_
        case neg =>
          have Hm := Lib.hid (Hmiss.out (by rw [Hd.out]; simp [h1]))
          go_wp2
          go_roundw
          case rel => exact ⟨k + 1, by go_num, by omega, Hm.out, Hbel.out.alloc hBr _, by rw [World.cell?_alloc_lt _ _ _ hzq]; exact Hq.out, by simp; omega⟩
          case measure => simp [intOf]; omega
        by_cases h2 : n ≤ ssz
        case neg =>
          have Hm := Lib.hid (Hmiss.out (by rw [Hd.out]; simp [h2]))
          go_wp2
          go_roundw
          case rel => exact ⟨k + 1, by go_num, by omega, Hm.out, Hbel.out.alloc hBr _, by rw [World.cell?_alloc_lt _ _ _ hzq]; exact Hq.out, by simp; omega⟩
          case measure => simp [intOf]; omega
        by_cases h3 : at_ ≤ sat + ssz - n
        · have Hh := Lib.hid (Hhit.out (by rw [Hd.out]; simp [h1, h2]; omega))
          go_wp2
          go_ret
          exact ⟨by rw [Hh.out]; rfl, Hbel.out.alloc hBr _⟩
        · have Hm := Lib.hid (Hmiss.out (by rw [Hd.out]; simp [h1, h2]; omega))
          go_wp2
          go_roundw
          case rel => exact ⟨k + 1, by go_num, by omega, Hm.out, Hbel.out.alloc hBr _, by rw [World.cell?_alloc_lt _ _ _ hzq]; exact Hq.out, by simp; omega⟩
          case measure => simp [intOf]; omega
    · have Hn2 : Hid (im.segs.any (fun s => holdB s at_ n p) = false) := Lib.hid (by have := Hno.out; rw [List.take_of_length_le (by omega)] at this; exact this)
      clear hno hbel
      go_wp2
      go_ret
      exact ⟨by rw [Hn2.out]; rfl, Hbel.out⟩

end Go.Proofs.Ytbliedldlimpgaa

namespace Go.Proofs.Ytbliedldlimpgaa
set_option linter.unusedVariables false
set_option linter.unusedSimpArgs false
open Go.RowKit

def runD (im : ImgL) (k : Nat) : List Int := if k = 0 then im.init else im.fini
theorem runB_long (im : ImgL) (l : List Int) (h : ¬ l.length ≤ 8) : runB im l = false := by simp [runB, h]
theorem runB_bad (im : ImgL) (l : List Int) (k : Nat) (x : Int) (hx : l[k]? = some x) (h : holdsB im.segs x 8 4 = false) : runB im l = false := by
  have : l.all (fun a => holdsB im.segs a 8 4) = false := by rw [List.all_eq_false]; exact ⟨x, List.mem_of_getElem? hx, by simp [h]⟩
  rw [runB, this]; simp
theorem runB_all (im : ImgL) (l : List Int) (h : l.length ≤ 8) (ha : (l.all fun a => holdsB im.segs a 8 4) = true) : runB im l = true := by rw [runB, ha]; simp [h]

set_option maxHeartbeats 16000000 in
set_option maxRecDepth 100000 in
theorem iruns_any (w : World) (v : ImgV) (im : ImgL) (hs : LB kSeg (· < w.heap.size) w v.segs im.segs) (hok : ∀ s ∈ im.segs, SegOk s)
    (hi : LB kInt (· < w.heap.size) w v.init im.init) (hf : LB kInt (· < w.heap.size) w v.fini im.fini)
    (hri : ∀ x ∈ im.init, -9223372036854775808 ≤ x ∧ x ≤ 9223372036854775807) (hrf : ∀ x ∈ im.fini, -9223372036854775808 ≤ x ∧ x ≤ 9223372036854775807) :
    Calls Try.prog 26 #[.agg (imgCells v im)] w fun e w' => e = .returned (.bool (runB im im.init && runB im im.fini)) ∧ Below w.heap.size w w' := by
  obtain ⟨ia, ib, ioff, icap, hiv, him, hic, hiat⟩ := hi.at
  obtain ⟨fa, fb, foff, fcap, hfv, hfm, hfc, hfat⟩ := hf.at
  obtain ⟨vsegs, vneeded, vrunPath, vsyms, vbuckets, vwords, vrelocs, vslots, vinit, vfini, vtls⟩ := v
  simp only at hiv hfv
  subst hiv hfv
  have HH : Hid (∀ (w' : World) (x : Int), Below w.heap.size w w' → -9223372036854775808 ≤ x ∧ x ≤ 9223372036854775807 →
    Calls Try.prog 59 #[.agg (imgCells ⟨vsegs, vneeded, vrunPath, vsyms, vbuckets, vwords, vrelocs, vslots, .slice ia im.init.length icap, .slice fa im.fini.length fcap, vtls⟩ im), .agg #[.int .i64 x, .int .i64 8, .int .i64 4]] w' fun e w'' => e = .returned (.bool (holdsB im.segs x 8 4)) ∧ Below w'.heap.size w' w'') := Lib.hid (fun w' x hb hx => holds_any w' _ im x 8 4 ((hs.below hb).mono hb.size) hok hx (by decide) (by decide))
  unfold imgCells at *
  have Hiat := Lib.hid hiat
  have Hfat := Lib.hid hfat
  have Hri := Lib.hid hri
  have Hrf := Lib.hid hrf
  clear hs hok hi hf hiat hfat hri hrf
  generalize hI : (Array.mk [.string ⟨im.name.toArray⟩, .int .i64 im.flags, vsegs, vneeded, vrunPath, vsyms, vbuckets, vwords, .int .i64 im.shift, vrelocs, vslots, .slice ia im.init.length icap, .slice fa im.fini.length fcap, vtls, .int .i64 im.tlsSize] : Array Value) = I at HH
  have F0 := Lib.hid (heap_alloc_new w (.cells I 38 (0, 0)))
  subst hI
  go_enter Try.func26, Try.ntmps26
  go_wp2_with fail
  go_loopw [13] (fun i wr => ∃ k : Nat, i = .int .i64 k ∧ k ≤ 2 ∧ (1 ≤ k → runB im im.init = true) ∧ (2 ≤ k → runB im im.fini = true) ∧ Below w.heap.size w wr ∧
    wr.heap[w.heap.size]? = some (.cells #[.string ⟨im.name.toArray⟩, .int .i64 im.flags, vsegs, vneeded, vrunPath, vsyms, vbuckets, vwords, .int .i64 im.shift, vrelocs, vslots, .slice ia im.init.length icap, .slice fa im.fini.length fcap, vtls, .int .i64 im.tlsSize] 38 (0, 0)) ∧
    wr.cell? ⟨w.heap.size + 1, 0, none⟩ = some (.slice ia im.init.length icap) ∧ wr.cell? ⟨w.heap.size + 1, 1, none⟩ = some (.slice fa im.fini.length fcap) ∧ w.heap.size + 1 < wr.heap.size) (fun i _ => 2 - (intOf i).toNat)
  case atStart =>
    refine ⟨0, rfl, by omega, fun h => by omega, fun h => by omega, ((Below.refl _ _).alloc (Nat.le_refl _) _).alloc (by simp) _, ?_, ?_, ?_, by simp⟩
    · rw [heap_alloc_old _ _ (by simp)]
      exact F0.out
    all_goals
      have e2 := heap_alloc_new (w.alloc (.cells #[.string ⟨im.name.toArray⟩, .int .i64 im.flags, vsegs, vneeded, vrunPath, vsyms, vbuckets, vwords, .int .i64 im.shift, vrelocs, vslots, .slice ia im.init.length icap, .slice fa im.fini.length fcap, vtls, .int .i64 im.tlsSize] 38 (0, 0))) (.cells #[.slice ia im.init.length icap, .slice fa im.fini.length fcap] 35 (0, 0))
      simp only [World.size_alloc] at e2
      rw [Lib.cell_of_heap e2]
      rfl
  case round =>
    obtain ⟨k, rfl, hk, h1, h2, hbel, hF, hc0, hc1, hz⟩ := hrel
    have H1 := Lib.hid h1
    have H2 := Lib.hid h2
    have Bw := Lib.hid hbel
    have HF := Lib.hid hF
    have hBr := hbel.size
    by_cases hlt : k < 2
    · obtain ⟨l, la, lb, loff, lcap, hcell, hlm, hlc, hat, hrange, hbad, hgood⟩ : ∃ (l : List Int) (la : Option Addr) (lb loff lcap : Nat), wr.cell? ⟨w.heap.size + 1, k, none⟩ = some (.slice la l.length lcap) ∧ l.length ≤ 9223372036854775807 ∧ l.length ≤ lcap ∧ LAt kInt (· < w.heap.size) w l la lb loff ∧
          (∀ x ∈ l, -9223372036854775808 ≤ x ∧ x ≤ 9223372036854775807) ∧ (runB im l = false → (runB im im.init && runB im im.fini) = false) ∧ (runB im l = true → (1 ≤ k + 1 → runB im im.init = true) ∧ (2 ≤ k + 1 → runB im im.fini = true)) := by
        have hk01 : k = 0 ∨ k = 1 := by omega
        rcases hk01 with rfl | rfl
        · exact ⟨im.init, ia, ib, ioff, icap, hc0, him, hic, Hiat.out, Hri.out, fun h => by rw [h]; rfl, fun h => ⟨fun _ => h, fun h2 => by omega⟩⟩
        · exact ⟨im.fini, fa, fb, foff, fcap, hc1, hfm, hfc, Hfat.out, Hrf.out, fun h => by rw [h]; simp, fun h => ⟨fun _ => H1.out (by omega), fun _ => h⟩⟩
      have Hat := Lib.hid hat
      have Hrange := Lib.hid hrange
      have Hbad := Lib.hid hbad
      have Hgood := Lib.hid hgood
      have Hc0 := Lib.hid hc0
      have Hc1 := Lib.hid hc1
      clear hat hrange hbad hgood h1 h2 hc0 hc1 hF hbel Hiat Hfat
      by_cases hl8 : l.length ≤ 8
      case neg =>
        have Hr := Lib.hid (Hbad.out (runB_long im l hl8))
        have hl9 : 8 < l.length := by omega
        go_wp2
        go_ret
        exact ⟨by rw [Hr.out]; rfl, Bw.out⟩
      have hl9 : ¬ 8 < l.length := by omega
      have hkd : decide ((k : Int) < 2) = true := by rw [decide_eq_true_eq]; omega
      go_wp2_with fail
      go_loopw [22] (fun i wi => ∃ q : Nat, i = .int .i64 q ∧ q ≤ l.length ∧ ((l.take q).all fun a => holdsB im.segs a 8 4) = true ∧ Below w.heap.size w wi ∧ Below wr.heap.size wr wi) (fun i _ => l.length - (intOf i).toNat)
      case atStart => exact ⟨0, rfl, Nat.zero_le _, rfl, Bw.out, Below.refl _ _⟩
      case round =>
        obtain ⟨q, rfl, hq, hall, hb0, hb1⟩ := hrel
        have Hall := Lib.hid hall
        have Hb0 := Lib.hid hb0
        have Hb1 := Lib.hid hb1
        have hzi := hb1.size
        have hF2 := (hb1.block w.heap.size (by omega)).trans HF.out
        clear hall hb0 hb1
        by_cases hlt2 : q < l.length
        · obtain rfl := Hat.out.addr (by omega)
          obtain ⟨x, hx⟩ : ∃ x, l[q]? = some x := ⟨_, List.getElem?_eq_getElem hlt2⟩
          have hxc := (Hat.out.below Hb0.out).int1 q x hx
          have hxr := Hrange.out x (List.mem_of_getElem? hx)
          have Hyes : Hid (holdsB im.segs x 8 4 = true → ((l.take (q + 1)).all fun a => holdsB im.segs a 8 4) = true) := Lib.hid (fun h => by rw [all_take_snoc _ l q x hx, Hall.out, h]; rfl)
          have Hno : Hid (holdsB im.segs x 8 4 = false → (runB im im.init && runB im im.fini) = false) := Lib.hid (fun h => Hbad.out (runB_bad im l q x hx h))
          obtain ⟨q0, q1, q2, q3, q4, q5, q6, q7, q8, q9, q10, q11, q12, q13, q14⟩ := img_cells hF2
          have hHx := HH.out wr x Hb0.out hxr
          go_wp2_with fail
          refine hHx.mono ?_
          rintro e w2 ⟨rfl, hb2⟩
          have Hb2 := Lib.hid (Hb0.out.trans (hb2.mono (by omega)))
          have Hb3 := Lib.hid (Hb1.out.trans (hb2.mono (by omega)))
          have hz2 := hb2.size
          clear hb2 q0 q1 q2 q3 q4 q5 q6 q7 q8 q9 q10 q11 q12 q13 q14 hF2 hHx hxc hx
          cases hh : holdsB im.segs x 8 4 with
          | false =>
            have Hr := Lib.hid (Hno.out hh)
            clear hh
            go_wp2
            go_ret
            exact ⟨by rw [Hr.out]; rfl, Hb2.out⟩
          | true =>
            have Hy := Lib.hid (Hyes.out hh)
            clear hh
            go_wp2
            go_round
            case rel =>
              exact ⟨q + 1, by go_num, by omega, Hy.out, Hb2.out, Hb3.out⟩
            case measure => simp [intOf]; omega
        · have Hl := Lib.hid (Hgood.out (runB_all im l hl8 (by have := Hall.out; rwa [List.take_of_length_le (by omega)] at this)))
          go_wp2
          go_round
          case rel =>
            have e0 := Hb1.out.block (w.heap.size + 1) hz
            exact ⟨k + 1, by go_num, by omega, Hl.out.1, Hl.out.2, Hb0.out, hF2, by rw [World.cell?_of_block (a := ⟨w.heap.size + 1, 0, none⟩) e0]; exact Hc0.out, by rw [World.cell?_of_block (a := ⟨w.heap.size + 1, 1, none⟩) e0]; exact Hc1.out, by omega⟩
          case measure => simp [intOf]; omega
    · have Hr : Hid ((runB im im.init && runB im im.fini) = true) := Lib.hid (by rw [H1.out (by omega), H2.out (by omega)]; rfl)
      go_wp2
      go_ret
      exact ⟨by rw [Hr.out]; rfl, Bw.out⟩

end Go.Proofs.Ytbliedldlimpgaa
