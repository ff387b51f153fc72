/- A region that draws its order, whose operations only read and whose callees may make memory of their own: one walk, in the order of the text. The worlds that may come up: all those in which what stood ahead of the region is as it was. -/
import Derived.Test.YtbliedldlimpgaaBas8
import Derived.Test.YtbliedldlimpgaaBas2
import Derived.Test.YtbliedldlimpgaaBas7
import Derived.Deep.QuietTactic
import Derived.Deep.RegionHeld3
import Derived.Deep.RegionLaw
import Derived.StillTactics
import Derived.BigQuiet
import Derived.Laws.BitsAllLaws
import Derived.Below
import Derived.KernelRfl
import Derived.Test.YtbliedldlimpgaaChecked

namespace Go.Proofs.Ytbliedldlimpgaa
set_option linter.unusedVariables false
set_option linter.unusedSimpArgs false
open Go.RowKit

set_option maxHeartbeats 16000000 in
set_option maxRecDepth 100000 in
theorem jruns_any (w : World) (v : ImgV) (im : ImgL) (hs : LB kSeg (· < w.heap.size) w v.segs im.segs) (hok : ∀ s ∈ im.segs, SegOk s)
    (hi : LB kInt (· < w.heap.size) w v.init im.init) (hf : LB kInt (· < w.heap.size) w v.fini im.fini)
    (hri : ∀ x ∈ im.init, -9223372036854775808 ≤ x ∧ x ≤ 9223372036854775807) (hrf : ∀ x ∈ im.fini, -9223372036854775808 ≤ x ∧ x ≤ 9223372036854775807) :
    Calls Try.prog 33 #[.agg (imgCells v im)] w fun e w' => e = .returned (.bool (runB im im.init && runB im im.fini)) ∧ Below w.heap.size w w' := by
  obtain ⟨ia, ib, ioff, icap, hiv, him, hic, hiat⟩ := hi.at
  obtain ⟨fa, fb, foff, fcap, hfv, hfm, hfc, hfat⟩ := hf.at
  obtain ⟨vsegs, vneeded, vrunPath, vsyms, vbuckets, vwords, vrelocs, vslots, vinit, vfini, vtls⟩ := v
  simp only at hiv hfv
  subst hiv hfv
  have HH : Hid (∀ (w' : World) (x : Int), Below w.heap.size w w' → -9223372036854775808 ≤ x ∧ x ≤ 9223372036854775807 →
    Calls Try.prog 17 #[.agg (imgCells ⟨vsegs, vneeded, vrunPath, vsyms, vbuckets, vwords, vrelocs, vslots, .slice ia im.init.length icap, .slice fa im.fini.length fcap, vtls⟩ im), .int .i64 x, .int .i64 8, .int .i64 4] w' fun e w'' => e = .returned (.bool (holdsB im.segs x 8 4)) ∧ Below w'.heap.size w' w'') := Lib.hid (fun w' x hb hx => jstands_any w' _ im x 8 4 ((hs.below hb).mono hb.size) hok hx (by decide) (by decide))
  unfold imgCells at *
  have Hiat := Lib.hid hiat
  have Hfat := Lib.hid hfat
  have Hri := Lib.hid hri
  have Hrf := Lib.hid hrf
  clear hs hok hi hf hiat hfat hri hrf
  generalize hI : (Array.mk [.string ⟨im.name.toArray⟩, .int .i64 im.flags, vsegs, vneeded, vrunPath, vsyms, vbuckets, vwords, .int .i64 im.shift, vrelocs, vslots, .slice ia im.init.length icap, .slice fa im.fini.length fcap, vtls, .int .i64 im.tlsSize] : Array Value) = I at HH
  have F0 := Lib.hid (heap_alloc_new w (.cells I 38 (0, 0)))
  subst hI
  go_enter Try.func33, Try.ntmps33
  go_wp2_with fail
  go_loopw [12] (fun i wr => ∃ k : Nat, i = .int .i64 k ∧ k ≤ 2 ∧ (1 ≤ k → runB im im.init = true) ∧ (2 ≤ k → runB im im.fini = true) ∧ Below w.heap.size w wr ∧
    wr.heap[w.heap.size]? = some (.cells #[.string ⟨im.name.toArray⟩, .int .i64 im.flags, vsegs, vneeded, vrunPath, vsyms, vbuckets, vwords, .int .i64 im.shift, vrelocs, vslots, .slice ia im.init.length icap, .slice fa im.fini.length fcap, vtls, .int .i64 im.tlsSize] 38 (0, 0)) ∧
    wr.cell? ⟨w.heap.size + 1, 0, none⟩ = some (.slice ia im.init.length icap) ∧ wr.cell? ⟨w.heap.size + 1, 1, none⟩ = some (.slice fa im.fini.length fcap) ∧ w.heap.size + 1 < wr.heap.size) (fun i _ => 2 - (intOf i).toNat)
  case atStart =>
    refine ⟨0, rfl, by omega, fun h => by omega, fun h => by omega, ((Below.refl _ _).alloc (Nat.le_refl _) _).alloc (by simp) _, ?_, ?_, ?_, by simp⟩
    · rw [heap_alloc_old _ _ (by simp)]
      exact F0.out
    all_goals
      have e2 := heap_alloc_new (w.alloc (.cells #[.string ⟨im.name.toArray⟩, .int .i64 im.flags, vsegs, vneeded, vrunPath, vsyms, vbuckets, vwords, .int .i64 im.shift, vrelocs, vslots, .slice ia im.init.length icap, .slice fa im.fini.length fcap, vtls, .int .i64 im.tlsSize] 38 (0, 0))) (.cells #[.slice ia im.init.length icap, .slice fa im.fini.length fcap] 35 (0, 0))
      simp only [World.size_alloc] at e2
      rw [Lib.cell_of_heap e2]
      rfl
  case round =>
    obtain ⟨k, rfl, hk, h1, h2, hbel, hF, hc0, hc1, hz⟩ := hrel
    have H1 := Lib.hid h1
    have H2 := Lib.hid h2
    have Bw := Lib.hid hbel
    have HF := Lib.hid hF
    have hBr := hbel.size
    by_cases hlt : k < 2
    · obtain ⟨l, la, lb, loff, lcap, hcell, hlm, hlc, hat, hrange, hbad, hgood⟩ : ∃ (l : List Int) (la : Option Addr) (lb loff lcap : Nat), wr.cell? ⟨w.heap.size + 1, k, none⟩ = some (.slice la l.length lcap) ∧ l.length ≤ 9223372036854775807 ∧ l.length ≤ lcap ∧ LAt kInt (· < w.heap.size) w l la lb loff ∧
          (∀ x ∈ l, -9223372036854775808 ≤ x ∧ x ≤ 9223372036854775807) ∧ (runB im l = false → (runB im im.init && runB im im.fini) = false) ∧ (runB im l = true → (1 ≤ k + 1 → runB im im.init = true) ∧ (2 ≤ k + 1 → runB im im.fini = true)) := by
        have hk01 : k = 0 ∨ k = 1 := by omega
        rcases hk01 with rfl | rfl
        · exact ⟨im.init, ia, ib, ioff, icap, hc0, him, hic, Hiat.out, Hri.out, fun h => by rw [h]; rfl, fun h => ⟨fun _ => h, fun h2 => by omega⟩⟩
        · exact ⟨im.fini, fa, fb, foff, fcap, hc1, hfm, hfc, Hfat.out, Hrf.out, fun h => by rw [h]; simp, fun h => ⟨fun _ => H1.out (by omega), fun _ => h⟩⟩
      have Hat := Lib.hid hat
      have Hrange := Lib.hid hrange
      have Hbad := Lib.hid hbad
      have Hgood := Lib.hid hgood
      have Hc0 := Lib.hid hc0
      have Hc1 := Lib.hid hc1
      clear hat hrange hbad hgood h1 h2 hc0 hc1 hF hbel Hiat Hfat
      by_cases hl8 : l.length ≤ 8
      case neg =>
        have Hr := Lib.hid (Hbad.out (runB_long im l hl8))
        have hl9 : 8 < l.length := by omega
        go_wp2
        go_ret
        exact ⟨by rw [Hr.out]; rfl, Bw.out⟩
      have hl9 : ¬ 8 < l.length := by omega
      have hkd : decide ((k : Int) < 2) = true := by rw [decide_eq_true_eq]; omega
      go_wp2_with fail
      go_loopw [5] (fun i wi => ∃ q : Nat, i = .int .i64 q ∧ q ≤ l.length ∧ ((l.take q).all fun a => holdsB im.segs a 8 4) = true ∧ Below w.heap.size w wi ∧ Below wr.heap.size wr wi) (fun i _ => l.length - (intOf i).toNat)
      case atStart => exact ⟨0, rfl, Nat.zero_le _, rfl, Bw.out, Below.refl _ _⟩
      case round =>
        obtain ⟨q, rfl, hq, hall, hb0, hb1⟩ := hrel
        have Hall := Lib.hid hall
        have Hb0 := Lib.hid hb0
        have Hb1 := Lib.hid hb1
        have hzi := hb1.size
        have hF2 := (hb1.block w.heap.size (by omega)).trans HF.out
        clear hall hb0 hb1
        by_cases hlt2 : q < l.length
        · obtain rfl := Hat.out.addr (by omega)
          obtain ⟨x, hx⟩ : ∃ x, l[q]? = some x := ⟨_, List.getElem?_eq_getElem hlt2⟩
          have hxc := (Hat.out.below Hb0.out).int1 q x hx
          have hxr := Hrange.out x (List.mem_of_getElem? hx)
          have Hyes : Hid (holdsB im.segs x 8 4 = true → ((l.take (q + 1)).all fun a => holdsB im.segs a 8 4) = true) := Lib.hid (fun h => by rw [all_take_snoc _ l q x hx, Hall.out, h]; rfl)
          have Hno : Hid (holdsB im.segs x 8 4 = false → (runB im im.init && runB im im.fini) = false) := Lib.hid (fun h => Hbad.out (runB_bad im l q x hx h))
          obtain ⟨q0, q1, q2, q3, q4, q5, q6, q7, q8, q9, q10, q11, q12, q13, q14⟩ := img_cells hF2
          have hHx := HH.out wr.drew x Hb0.out.drew hxr
          go_wp2_with fail
          refine wp_region_phase 7 (by kernel_rfl) (by kernel_rfl) ?_
          simp only [List.take_succ_cons, List.take_zero, List.drop_succ_cons, List.drop_zero, List.take_nil, List.drop_nil]
          refine wpAny_of_held (S := fun w' => w'.cell? ⟨w.heap.size, 0, none⟩ = some (.string ⟨im.name.toArray⟩) ∧ w'.cell? ⟨w.heap.size, 1, none⟩ = some (.int .i64 im.flags) ∧ w'.cell? ⟨w.heap.size, 2, none⟩ = some vsegs ∧ w'.cell? ⟨w.heap.size, 3, none⟩ = some vneeded ∧ w'.cell? ⟨w.heap.size, 4, none⟩ = some vrunPath ∧ w'.cell? ⟨w.heap.size, 5, none⟩ = some vsyms ∧ w'.cell? ⟨w.heap.size, 6, none⟩ = some vbuckets ∧ w'.cell? ⟨w.heap.size, 7, none⟩ = some vwords ∧ w'.cell? ⟨w.heap.size, 8, none⟩ = some (.int .i64 im.shift) ∧ w'.cell? ⟨w.heap.size, 9, none⟩ = some vrelocs ∧ w'.cell? ⟨w.heap.size, 10, none⟩ = some vslots ∧ w'.cell? ⟨w.heap.size, 11, none⟩ = some (.slice ia im.init.length icap) ∧ w'.cell? ⟨w.heap.size, 12, none⟩ = some (.slice fa im.fini.length fcap) ∧ w'.cell? ⟨w.heap.size, 13, none⟩ = some vtls ∧ w'.cell? ⟨w.heap.size, 14, none⟩ = some (.int .i64 im.tlsSize) ∧ w'.cell? ⟨lb, loff + q, none⟩ = some (.int .i64 x)) _ _ _ _ ?_
          have hHeld : (fun w' : World => w'.cell? ⟨w.heap.size, 0, none⟩ = some (.string ⟨im.name.toArray⟩) ∧ w'.cell? ⟨w.heap.size, 1, none⟩ = some (.int .i64 im.flags) ∧ w'.cell? ⟨w.heap.size, 2, none⟩ = some vsegs ∧ w'.cell? ⟨w.heap.size, 3, none⟩ = some vneeded ∧ w'.cell? ⟨w.heap.size, 4, none⟩ = some vrunPath ∧ w'.cell? ⟨w.heap.size, 5, none⟩ = some vsyms ∧ w'.cell? ⟨w.heap.size, 6, none⟩ = some vbuckets ∧ w'.cell? ⟨w.heap.size, 7, none⟩ = some vwords ∧ w'.cell? ⟨w.heap.size, 8, none⟩ = some (.int .i64 im.shift) ∧ w'.cell? ⟨w.heap.size, 9, none⟩ = some vrelocs ∧ w'.cell? ⟨w.heap.size, 10, none⟩ = some vslots ∧ w'.cell? ⟨w.heap.size, 11, none⟩ = some (.slice ia im.init.length icap) ∧ w'.cell? ⟨w.heap.size, 12, none⟩ = some (.slice fa im.fini.length fcap) ∧ w'.cell? ⟨w.heap.size, 13, none⟩ = some vtls ∧ w'.cell? ⟨w.heap.size, 14, none⟩ = some (.int .i64 im.tlsSize) ∧ w'.cell? ⟨lb, loff + q, none⟩ = some (.int .i64 x)) wr.drew := ⟨q0, q1, q2, q3, q4, q5, q6, q7, q8, q9, q10, q11, q12, q13, q14, hxc⟩
          show wpAnyH _ _ _ _ _ _ _ _ wr.drew
          refine wpAnyH_take (i := 0) (v := ?_) rfl (by kernel_rfl) (by kernel_rfl) (by kernel_rfl) (fun _ _ _ h => h) (Or.inl ⟨by rfl, ?_⟩) hHeld ?_
          rotate_left
          · (intro w hSw; (try dsimp only at hSw); go_simp; try with_reducible rfl)
          try simp only [Act.put, List.setIfInBounds_toArray, List.set_cons_zero, List.set_cons_succ]
          refine wpAnyH_take (i := 1) (v := ?_) rfl (by kernel_rfl) (by kernel_rfl) (by kernel_rfl) (fun _ _ _ h => h) (Or.inl ⟨by rfl, ?_⟩) hHeld ?_
          rotate_left
          · (intro w hSw; (try dsimp only at hSw); go_simp; try with_reducible rfl)
          try simp only [Act.put, List.setIfInBounds_toArray, List.set_cons_zero, List.set_cons_succ]
          refine wpAnyH_take (i := 2) (v := ?_) rfl (by kernel_rfl) (by kernel_rfl) (by kernel_rfl) (fun _ _ _ h => h) (Or.inl ⟨by rfl, ?_⟩) hHeld ?_
          rotate_left
          · (intro w hSw; (try dsimp only at hSw); go_simp; try with_reducible rfl)
          try simp only [Act.put, List.setIfInBounds_toArray, List.set_cons_zero, List.set_cons_succ]
          refine wpAnyH_take (i := 3) (v := ?_) rfl (by kernel_rfl) (by kernel_rfl) (by kernel_rfl) (fun _ _ _ h => h) (Or.inl ⟨by rfl, ?_⟩) hHeld ?_
          rotate_left
          · (intro w hSw; (try dsimp only at hSw); go_simp; try with_reducible rfl)
          try simp only [Act.put, List.setIfInBounds_toArray, List.set_cons_zero, List.set_cons_succ]
          refine wpAnyH_take (i := 4) (v := ?_) rfl (by kernel_rfl) (by kernel_rfl) (by kernel_rfl) (fun _ _ _ h => h) (Or.inl ⟨by rfl, ?_⟩) hHeld ?_
          rotate_left
          · (intro w hSw; (try dsimp only at hSw); go_simp; try with_reducible rfl)
          try simp only [Act.put, List.setIfInBounds_toArray, List.set_cons_zero, List.set_cons_succ]
          refine wpAnyH_ready (rs := [5]) (by kernel_rfl) (by simp) ?_
          refine AllReadyH.cons rfl (fun K hK => ?_) AllReadyH.nil
          go_simp
          refine hHx.mono ?_
          rintro e w2 ⟨rfl, hb2'⟩
          have hb2 : Below wr.heap.size wr w2 := ((Below.refl _ wr).drew).trans hb2'
          have Hb2 := Lib.hid (Hb0.out.trans (hb2.mono (by omega)))
          have Hb3 := Lib.hid (Hb1.out.trans (hb2.mono (by omega)))
          have hz2 := hb2.size
          have hF3 := (hb2.block w.heap.size (by omega)).trans hF2
          have hxc2 := (Hat.out.below Hb2.out).int1 q x hx
          obtain ⟨q0, q1, q2, q3, q4, q5, q6, q7, q8, q9, q10, q11, q12, q13, q14⟩ := img_cells hF3
          refine hK.out _ _ ⟨q0, q1, q2, q3, q4, q5, q6, q7, q8, q9, q10, q11, q12, q13, q14, hxc2⟩ (fun hHeld => ?_)
          clear hK K q0 q1 q2 q3 q4 q5 q6 q7 q8 q9 q10 q11 q12 q13 q14
          try simp only [Act.put, List.setIfInBounds_toArray, List.set_cons_zero, List.set_cons_succ]
          cases hh : holdsB im.segs x 8 4 with
          | false =>
            have Hr := Lib.hid (Hno.out hh)
            clear hh
            refine wpAnyH_take (i := 6) (v := ?_) rfl (by kernel_rfl) (by kernel_rfl) (by kernel_rfl) (fun _ _ _ h => h) (Or.inl ⟨by rfl, ?_⟩) hHeld ?_
            rotate_left
            · (intro w hSw; (try dsimp only at hSw); go_simp; try with_reducible rfl)
            try simp only [Act.put, List.setIfInBounds_toArray, List.set_cons_zero, List.set_cons_succ]
            refine wpAnyH_done (by kernel_rfl) ?_ _
            simp only [phaseQ]
            clear hHeld hxc2 hF3 hb2 hb2' hF2 hHx hxc hx
            go_wp2
            go_ret
            exact ⟨by rw [Hr.out]; rfl, Hb2.out⟩
          | true =>
            have Hy := Lib.hid (Hyes.out hh)
            clear hh
            refine wpAnyH_take (i := 6) (v := ?_) rfl (by kernel_rfl) (by kernel_rfl) (by kernel_rfl) (fun _ _ _ h => h) (Or.inl ⟨by rfl, ?_⟩) hHeld ?_
            rotate_left
            · (intro w hSw; (try dsimp only at hSw); go_simp; try with_reducible rfl)
            try simp only [Act.put, List.setIfInBounds_toArray, List.set_cons_zero, List.set_cons_succ]
            refine wpAnyH_done (by kernel_rfl) ?_ _
            simp only [phaseQ]
            clear hHeld hxc2 hF3 hb2 hb2' hF2 hHx hxc hx
            go_wp2
            go_round
            case rel => exact ⟨q + 1, by go_num, by omega, Hy.out, Hb2.out, Hb3.out⟩
            case measure => simp [intOf]; omega
        · have Hl := Lib.hid (Hgood.out (runB_all im l hl8 (by have := Hall.out; rwa [List.take_of_length_le (by omega)] at this)))
          go_wp2
          go_round
          case rel =>
            have e0 := Hb1.out.block (w.heap.size + 1) hz
            exact ⟨k + 1, by go_num, by omega, Hl.out.1, Hl.out.2, Hb0.out, hF2, by rw [World.cell?_of_block (a := ⟨w.heap.size + 1, 0, none⟩) e0]; exact Hc0.out, by rw [World.cell?_of_block (a := ⟨w.heap.size + 1, 1, none⟩) e0]; exact Hc1.out, by omega⟩
          case measure => simp [intOf]; omega
    · have Hr : Hid ((runB im im.init && runB im im.fini) = true) := Lib.hid (by rw [H1.out (by omega), H2.out (by omega)]; rfl)
      go_wp2
      go_ret
      exact ⟨by rw [Hr.out]; rfl, Bw.out⟩

end Go.Proofs.Ytbliedldlimpgaa

namespace Go.Proofs.Ytbliedldlimpgaa
set_option linter.unusedVariables false
set_option linter.unusedSimpArgs false
open Go.RowKit

set_option maxHeartbeats 8000000 in
set_option maxRecDepth 100000 in
theorem smarks_any (w : World) (a : Option Addr) (n c : Nat) (s : Int) (h : Nat) (hh : h < 4294967296) (h1 : 1 ≤ n) (h2 : n ≤ 64) (h3 : 1 ≤ s) (h4 : s ≤ 31) :
    Calls Try.prog 95 #[.agg #[.slice a n c, .int .i64 s], .int .u32 h] w fun e w' => e = .returned (.agg #[.int .i64 (bits .and .i64 ((h : Int) / 64) ((n : Int) - 1)), .int .u64 (bits .or .u64 (IntKind.u64.wrap (2 ^ (h % 64))) (IntKind.u64.wrap (2 ^ (h / 2 ^ s.toNat % 64))))]) ∧ Below w.heap.size w w' := by
  obtain ⟨sn, rfl⟩ : ∃ sn : Nat, s = sn := ⟨s.toNat, by omega⟩
  have e1 : ((h : Int)).tmod 64 = ((h % 64 : Nat) : Int) := by rw [Int.tmod_eq_emod_of_nonneg (by omega)]; omega
  have e2 : ((h : Int) / 2 ^ sn).tmod 64 = ((h / 2 ^ sn % 64 : Nat) : Int) := by
    rw [Int.tmod_eq_emod_of_nonneg (Int.ediv_nonneg (by omega) (Int.le_of_lt (Int.pow_pos (by decide)))), Int.natCast_emod, Int.natCast_ediv, Int.natCast_pow]
    rfl
  have k1 : h % 64 < 64 := Nat.mod_lt _ (by decide)
  have k2 : h / 2 ^ sn % 64 < 64 := Nat.mod_lt _ (by decide)
  generalize hb1 : h % 64 = b1 at *
  generalize hb2 : h / 2 ^ sn % 64 = b2 at *
  go_enter Try.func95, Try.ntmps95
  go_wp2_with fail
  refine wp_region_phase 19 (by kernel_rfl) (by kernel_rfl) ?_
  simp only [List.take_succ_cons, List.take_zero, List.drop_succ_cons, List.drop_zero, List.take_nil, List.drop_nil]
  have F0 : ((w.alloc (.cells #[.slice a n c, .int .i64 (sn : Int)] 30 (0, 0))).alloc (.cells #[.int .i64 0, .int .u64 0] 141 (0, 0))).heap[w.heap.size]? = some (.cells #[.slice a n c, .int .i64 (sn : Int)] 30 (0, 0)) := by
    rw [heap_alloc_old _ _ (by simp)]; exact heap_alloc_new w _
  have c0 := (Lib.cell_of_heap F0 0)
  have c1 := (Lib.cell_of_heap F0 1)
  refine wpAny_of_held (S := fun w' => w'.cell? ⟨w.heap.size, 0, none⟩ = some (.slice a n c) ∧ w'.cell? ⟨w.heap.size, 1, none⟩ = some (.int .i64 (sn : Int))) _ _ _ _ ?_
  have hHeld : (fun w' : World => w'.cell? ⟨w.heap.size, 0, none⟩ = some (.slice a n c) ∧ w'.cell? ⟨w.heap.size, 1, none⟩ = some (.int .i64 (sn : Int))) ((w.alloc (.cells #[.slice a n c, .int .i64 (sn : Int)] 30 (0, 0))).alloc (.cells #[.int .i64 0, .int .u64 0] 141 (0, 0))).drew := ⟨c0, c1⟩
  show wpAnyH _ _ _ _ _ _ _ _ (World.drew _)
  refine wpAnyH_take (i := 0) (v := ?_) rfl (by kernel_rfl) (by kernel_rfl) (by kernel_rfl) (fun _ _ _ h => h) (Or.inl ⟨by rfl, ?_⟩) hHeld ?_
  rotate_left
  · (intro w hSw; (try dsimp only at hSw); go_simp; try with_reducible rfl)
  try simp only [Act.put, List.setIfInBounds_toArray, List.set_cons_zero, List.set_cons_succ]
  refine wpAnyH_take (i := 1) (v := ?_) rfl (by kernel_rfl) (by kernel_rfl) (by kernel_rfl) (fun _ _ _ h => h) (Or.inl ⟨by rfl, ?_⟩) hHeld ?_
  rotate_left
  · (intro w hSw; (try dsimp only at hSw); go_simp; try with_reducible rfl)
  try simp only [Act.put, List.setIfInBounds_toArray, List.set_cons_zero, List.set_cons_succ]
  refine wpAnyH_take (i := 2) (v := ?_) rfl (by kernel_rfl) (by kernel_rfl) (by kernel_rfl) (fun _ _ _ h => h) (Or.inl ⟨by rfl, ?_⟩) hHeld ?_
  rotate_left
  · (intro w hSw; (try dsimp only at hSw); go_simp; try with_reducible rfl)
  try simp only [Act.put, List.setIfInBounds_toArray, List.set_cons_zero, List.set_cons_succ]
  refine wpAnyH_take (i := 3) (v := ?_) rfl (by kernel_rfl) (by kernel_rfl) (by kernel_rfl) (fun _ _ _ h => h) (Or.inl ⟨by rfl, ?_⟩) hHeld ?_
  rotate_left
  · (intro w hSw; (try dsimp only at hSw); go_simp; try with_reducible rfl)
  try simp only [Act.put, List.setIfInBounds_toArray, List.set_cons_zero, List.set_cons_succ]
  refine wpAnyH_take (i := 4) (v := ?_) rfl (by kernel_rfl) (by kernel_rfl) (by kernel_rfl) (fun _ _ _ h => h) (Or.inl ⟨by rfl, ?_⟩) hHeld ?_
  rotate_left
  · (intro w hSw; (try dsimp only at hSw); go_simp; try with_reducible rfl)
  try simp only [Act.put, List.setIfInBounds_toArray, List.set_cons_zero, List.set_cons_succ]
  refine wpAnyH_take (i := 5) (v := ?_) rfl (by kernel_rfl) (by kernel_rfl) (by kernel_rfl) (fun _ _ _ h => h) (Or.inl ⟨by rfl, ?_⟩) hHeld ?_
  rotate_left
  · (intro w hSw; (try dsimp only at hSw); go_simp; try with_reducible rfl)
  try simp only [Act.put, List.setIfInBounds_toArray, List.set_cons_zero, List.set_cons_succ]
  refine wpAnyH_take (i := 6) (v := ?_) rfl (by kernel_rfl) (by kernel_rfl) (by kernel_rfl) (fun _ _ _ h => h) (Or.inl ⟨by rfl, ?_⟩) hHeld ?_
  rotate_left
  · (intro w hSw; (try dsimp only at hSw); go_simp; try with_reducible rfl)
  try simp only [Act.put, List.setIfInBounds_toArray, List.set_cons_zero, List.set_cons_succ]
  refine wpAnyH_take (i := 7) (v := ?_) rfl (by kernel_rfl) (by kernel_rfl) (by kernel_rfl) (fun _ _ _ h => h) (Or.inl ⟨by rfl, ?_⟩) hHeld ?_
  rotate_left
  · (intro w hSw; (try dsimp only at hSw); go_simp; try with_reducible rfl)
  try simp only [Act.put, List.setIfInBounds_toArray, List.set_cons_zero, List.set_cons_succ]
  refine wpAnyH_take (i := 8) (v := ?_) rfl (by kernel_rfl) (by kernel_rfl) (by kernel_rfl) (fun _ _ _ h => h) (Or.inl ⟨by rfl, ?_⟩) hHeld ?_
  rotate_left
  · (intro w hSw; (try dsimp only at hSw); go_simp; try with_reducible rfl)
  try simp only [Act.put, List.setIfInBounds_toArray, List.set_cons_zero, List.set_cons_succ]
  refine wpAnyH_take (i := 9) (v := ?_) rfl (by kernel_rfl) (by kernel_rfl) (by kernel_rfl) (fun _ _ _ h => h) (Or.inl ⟨by rfl, ?_⟩) hHeld ?_
  rotate_left
  · (intro w hSw; (try dsimp only at hSw); go_simp; try with_reducible rfl)
  try simp only [Act.put, List.setIfInBounds_toArray, List.set_cons_zero, List.set_cons_succ]
  refine wpAnyH_take (i := 10) (v := ?_) rfl (by kernel_rfl) (by kernel_rfl) (by kernel_rfl) (fun _ _ _ h => h) (Or.inl ⟨by rfl, ?_⟩) hHeld ?_
  rotate_left
  · (intro w hSw; (try dsimp only at hSw); go_simp; try with_reducible rfl)
  try simp only [Act.put, List.setIfInBounds_toArray, List.set_cons_zero, List.set_cons_succ]
  refine wpAnyH_take (i := 11) (v := ?_) rfl (by kernel_rfl) (by kernel_rfl) (by kernel_rfl) (fun _ _ _ h => h) (Or.inl ⟨by rfl, ?_⟩) hHeld ?_
  rotate_left
  · (intro w hSw; (try dsimp only at hSw); go_simp; try with_reducible rfl)
  try simp only [Act.put, List.setIfInBounds_toArray, List.set_cons_zero, List.set_cons_succ]
  refine wpAnyH_take (i := 12) (v := ?_) rfl (by kernel_rfl) (by kernel_rfl) (by kernel_rfl) (fun _ _ _ h => h) (Or.inl ⟨by rfl, ?_⟩) hHeld ?_
  rotate_left
  · (intro w hSw; (try dsimp only at hSw); go_simp; try with_reducible rfl)
  try simp only [Act.put, List.setIfInBounds_toArray, List.set_cons_zero, List.set_cons_succ]
  refine wpAnyH_take (i := 13) (v := ?_) rfl (by kernel_rfl) (by kernel_rfl) (by kernel_rfl) (fun _ _ _ h => h) (Or.inl ⟨by rfl, ?_⟩) hHeld ?_
  rotate_left
  · (intro w hSw; (try dsimp only at hSw); go_simp; try with_reducible rfl)
  try simp only [Act.put, List.setIfInBounds_toArray, List.set_cons_zero, List.set_cons_succ]
  refine wpAnyH_take (i := 14) (v := ?_) rfl (by kernel_rfl) (by kernel_rfl) (by kernel_rfl) (fun _ _ _ h => h) (Or.inl ⟨by rfl, ?_⟩) hHeld ?_
  rotate_left
  · (intro w hSw; (try dsimp only at hSw); go_simp; try with_reducible rfl)
  try simp only [Act.put, List.setIfInBounds_toArray, List.set_cons_zero, List.set_cons_succ]
  refine wpAnyH_take (i := 15) (v := ?_) rfl (by kernel_rfl) (by kernel_rfl) (by kernel_rfl) (fun _ _ _ h => h) (Or.inl ⟨by rfl, ?_⟩) hHeld ?_
  rotate_left
  · (intro w hSw; (try dsimp only at hSw); go_simp; try with_reducible rfl)
  try simp only [Act.put, List.setIfInBounds_toArray, List.set_cons_zero, List.set_cons_succ]
  refine wpAnyH_take (i := 16) (v := ?_) rfl (by kernel_rfl) (by kernel_rfl) (by kernel_rfl) (fun _ _ _ h => h) (Or.inl ⟨by rfl, ?_⟩) hHeld ?_
  rotate_left
  · (intro w hSw; (try dsimp only at hSw); go_simp; try with_reducible rfl)
  try simp only [Act.put, List.setIfInBounds_toArray, List.set_cons_zero, List.set_cons_succ]
  refine wpAnyH_take (i := 17) (v := ?_) rfl (by kernel_rfl) (by kernel_rfl) (by kernel_rfl) (fun _ _ _ h => h) (Or.inl ⟨by rfl, ?_⟩) hHeld ?_
  rotate_left
  · (intro w hSw; (try dsimp only at hSw); go_simp; try with_reducible rfl)
  try simp only [Act.put, List.setIfInBounds_toArray, List.set_cons_zero, List.set_cons_succ]
  refine wpAnyH_take (i := 18) (v := ?_) rfl (by kernel_rfl) (by kernel_rfl) (by kernel_rfl) (fun _ _ _ h => h) (Or.inl ⟨by rfl, ?_⟩) hHeld ?_
  rotate_left
  · (intro w hSw; (try dsimp only at hSw); go_simp; try with_reducible rfl)
  try simp only [Act.put, List.setIfInBounds_toArray, List.set_cons_zero, List.set_cons_succ]
  refine wpAnyH_done (by kernel_rfl) ?_ _
  simp only [phaseQ]
  clear hHeld
  go_wp2
  have F1 : ((w.alloc (.cells #[.slice a n c, .int .i64 (sn : Int)] 30 (0, 0))).alloc (.cells #[.int .i64 (bits .and .i64 ((h : Int) / 64) ((n : Int) - 1)), .int .u64 (bits .or .u64 (IntKind.u64.wrap (2 ^ b1)) (IntKind.u64.wrap (2 ^ b2)))] 141 (0, 0))).drew.heap[w.heap.size + 1]? = some (.cells #[.int .i64 (bits .and .i64 ((h : Int) / 64) ((n : Int) - 1)), .int .u64 (bits .or .u64 (IntKind.u64.wrap (2 ^ b1)) (IntKind.u64.wrap (2 ^ b2)))] 141 (0, 0)) := by
    have := heap_alloc_new (w.alloc (.cells #[.slice a n c, .int .i64 (sn : Int)] 30 (0, 0))) (.cells #[.int .i64 (bits .and .i64 ((h : Int) / 64) ((n : Int) - 1)), .int .u64 (bits .or .u64 (IntKind.u64.wrap (2 ^ b1)) (IntKind.u64.wrap (2 ^ b2)))] 141 (0, 0))
    rw [World.size_alloc] at this
    exact this
  have d0 : ((w.alloc (.cells #[.slice a n c, .int .i64 (sn : Int)] 30 (0, 0))).alloc (.cells #[.int .i64 (bits .and .i64 ((h : Int) / 64) ((n : Int) - 1)), .int .u64 (bits .or .u64 (IntKind.u64.wrap (2 ^ b1)) (IntKind.u64.wrap (2 ^ b2)))] 141 (0, 0))).drew.cell? ⟨w.heap.size + 1, 0, none⟩ = some (.int .i64 (bits .and .i64 ((h : Int) / 64) ((n : Int) - 1))) := by rw [Lib.cell_of_heap F1]; rfl
  have d1 : ((w.alloc (.cells #[.slice a n c, .int .i64 (sn : Int)] 30 (0, 0))).alloc (.cells #[.int .i64 (bits .and .i64 ((h : Int) / 64) ((n : Int) - 1)), .int .u64 (bits .or .u64 (IntKind.u64.wrap (2 ^ b1)) (IntKind.u64.wrap (2 ^ b2)))] 141 (0, 0))).drew.cell? ⟨w.heap.size + 1, 1, none⟩ = some (.int .u64 (bits .or .u64 (IntKind.u64.wrap (2 ^ b1)) (IntKind.u64.wrap (2 ^ b2)))) := by rw [Lib.cell_of_heap F1]; rfl
  refine bodyPost_ret (v := .agg #[.int .i64 (bits .and .i64 ((h : Int) / 64) ((n : Int) - 1)), .int .u64 (bits .or .u64 (IntKind.u64.wrap (2 ^ b1)) (IntKind.u64.wrap (2 ^ b2)))]) (by simp [results, Try.results95, d0, d1, go_sem]) rfl ⟨by rw [Int.toNat_natCast, hb2], (((Below.refl _ _).alloc (Nat.le_refl _) _).alloc (by simp) _).drew⟩

end Go.Proofs.Ytbliedldlimpgaa

namespace Go.Proofs.Ytbliedldlimpgaa
set_option linter.unusedVariables false
set_option linter.unusedSimpArgs false
open Go.RowKit

theorem nat_two_bits (m k1 k2 : Nat) : m &&& (2 ^ k1 ||| 2 ^ k2) = 2 ^ k1 ||| 2 ^ k2 ↔ m.testBit k1 = true ∧ m.testBit k2 = true := by
  constructor
  · intro h
    have h1 := congrArg (fun x => x.testBit k1) h
    have h2 := congrArg (fun x => x.testBit k2) h
    simp only [Nat.testBit_and, Nat.testBit_or, Nat.testBit_two_pow_self] at h1 h2
    simp at h1 h2
    exact ⟨h1, h2⟩
  · rintro ⟨h1, h2⟩
    apply Nat.eq_of_testBit_eq
    intro i
    simp only [Nat.testBit_and, Nat.testBit_or, Nat.testBit_two_pow]
    by_cases e1 : k1 = i
    · subst e1; simp [h1]
    · by_cases e2 : k2 = i
      · subst e2; simp [h2]
      · simp [e1, e2]
theorem bitB_testBit (m k : Nat) : bitB (m : Int) k = m.testBit k := by
  rw [bitB, Int.toNat_natCast, Nat.testBit_eq_decide_div_mod_eq]
  rw [Bool.eq_iff_iff]; simp
theorem wrap_pow (k : Nat) (h : k < 64) : IntKind.u64.wrap ((2 : Int) ^ k) = ((2 ^ k : Nat) : Int) := by
  have : (2 ^ k : Nat) < 2 ^ 64 := Nat.pow_lt_pow_right (by decide) h
  have e : (2 : Nat) ^ 64 = 18446744073709551616 := by decide
  rw [show ((2 : Int) ^ k) = ((2 ^ k : Nat) : Int) by rw [Int.natCast_pow]; rfl]
  generalize 2 ^ k = P at *
  exact IntWalk.u64_in _ ⟨by omega, by omega⟩
/-- the mark's bits -/
theorem marks_bits (k1 k2 : Nat) (h1 : k1 < 64) (h2 : k2 < 64) : bits .or .u64 (IntKind.u64.wrap ((2 : Int) ^ k1)) (IntKind.u64.wrap ((2 : Int) ^ k2)) = ((2 ^ k1 ||| 2 ^ k2 : Nat) : Int) := by
  have a1 : (2 ^ k1 : Nat) < 2 ^ 64 := Nat.pow_lt_pow_right (by decide) h1
  have a2 : (2 ^ k2 : Nat) < 2 ^ 64 := Nat.pow_lt_pow_right (by decide) h2
  have e : (2 : Nat) ^ 64 = 18446744073709551616 := by decide
  rw [wrap_pow k1 h1, wrap_pow k2 h2, u64_or_nat _ _ (by omega) (by omega)]
theorem marks_lt (k1 k2 : Nat) (h1 : k1 < 64) (h2 : k2 < 64) : 2 ^ k1 ||| 2 ^ k2 < 18446744073709551616 :=
  Nat.or_lt_two_pow (n := 64) (Nat.pow_lt_pow_right (by decide) h1) (Nat.pow_lt_pow_right (by decide) h2)
theorem marks_miss (m k1 k2 : Nat) (hm : m < 18446744073709551616) (h1 : k1 < 64) (h2 : k2 < 64) :
    (bits .and .u64 (m : Int) ((2 ^ k1 ||| 2 ^ k2 : Nat) : Int) != ((2 ^ k1 ||| 2 ^ k2 : Nat) : Int)) = !(bitB (m : Int) k1 && bitB (m : Int) k2) := by
  rw [u64_and_nat _ _ hm (marks_lt k1 k2 h1 h2), bitB_testBit, bitB_testBit]
  have h := nat_two_bits m k1 k2
  rw [Bool.eq_iff_iff]
  simp only [bne_iff_ne, ne_eq, Int.natCast_inj, h, Bool.not_eq_true', Bool.and_eq_false_iff]
  cases m.testBit k1 <;> cases m.testBit k2 <;> simp
theorem i64_and_small (a b : Nat) (ha : a < 9223372036854775808) (hb : b < 9223372036854775808) : bits .and .i64 (a : Int) (b : Int) = ((a &&& b : Nat) : Int) := by
  have h1 : (BitVec.ofInt 64 (a : Int)).toNat = a := ofInt_u64 a (by omega)
  have h2 : (BitVec.ofInt 64 (b : Int)).toNat = b := ofInt_u64 b (by omega)
  have h3 : a &&& b < 9223372036854775808 := Nat.lt_of_le_of_lt Nat.and_le_left ha
  show IntKind.i64.wrap ((BitVec.ofInt 64 (a : Int) &&& BitVec.ofInt 64 (b : Int)).toNat : Int) = _
  rw [BitVec.toNat_and, h1, h2]
  simp [IntKind.wrap, IntKind.bits, IntKind.signed]
  omega
theorem pow_word (h n : Nat) (hh : h < 4294967296) (hp : powB n = true) : bits .and .i64 ((h : Int) / 64) ((n : Int) - 1) = ((h / 64 % n : Nat) : Int) := by
  rw [powB_iff] at hp
  rw [show ((h : Int) / 64) = ((h / 64 : Nat) : Int) by omega, show ((n : Int) - 1) = ((n - 1 : Nat) : Int) by omega, i64_and_small _ _ (by omega) (by omega)]
  congr 1
  rcases hp with rfl | rfl | rfl | rfl | rfl | rfl | rfl
  · exact Nat.and_two_pow_sub_one_eq_mod _ 0
  · exact Nat.and_two_pow_sub_one_eq_mod _ 1
  · exact Nat.and_two_pow_sub_one_eq_mod _ 2
  · exact Nat.and_two_pow_sub_one_eq_mod _ 3
  · exact Nat.and_two_pow_sub_one_eq_mod _ 4
  · exact Nat.and_two_pow_sub_one_eq_mod _ 5
  · exact Nat.and_two_pow_sub_one_eq_mod _ 6

set_option maxHeartbeats 8000000 in
set_option maxRecDepth 100000 in
theorem slacks_any (w : World) (v : Value) (ws : List Int) (s : Int) (h : Nat) (hw : LB kWord (· < w.heap.size) w v ws) (hr : ∀ x ∈ ws, 0 ≤ x ∧ x < 18446744073709551616) (hh : h < 4294967296) (hs : sieveB ws s = true) :
    Calls Try.prog 63 #[.agg #[v, .int .i64 s], .int .u32 h] w fun e w' => e = .returned (.bool (lacksB ws s (h : Int))) ∧ Below w.heap.size w w' := by
  obtain ⟨a, b, off, c, rfl, hm, hc, hat⟩ := hw.at
  have hse : sieveErr ws s = 0 := by rw [sieveErr, hs]; rfl
  rw [sieveB_pow] at hs
  simp only [Bool.and_eq_true, decide_eq_true_eq] at hs
  obtain ⟨⟨hp, hs1⟩, hs2⟩ := hs
  have hn := (powB_iff _).1 hp
  have hn1 : 1 ≤ ws.length ∧ ws.length ≤ 64 := by omega
  obtain rfl := hat.addr (by omega)
  have hk : h / 64 % ws.length < ws.length := Nat.mod_lt _ (by omega)
  obtain ⟨x, hx⟩ : ∃ x, ws[h / 64 % ws.length]? = some x := ⟨_, List.getElem?_eq_getElem hk⟩
  have hxr := hr x (List.mem_of_getElem? hx)
  obtain ⟨m, rfl⟩ : ∃ m : Nat, x = m := ⟨x.toNat, by omega⟩
  have k1 : h % 64 < 64 := Nat.mod_lt _ (by decide)
  have k2 : h / 2 ^ s.toNat % 64 < 64 := Nat.mod_lt _ (by decide)
  have Hres : Hid (lacksB ws s (h : Int) = (bits .and .u64 (m : Int) ((2 ^ (h % 64) ||| 2 ^ (h / 2 ^ s.toNat % 64) : Nat) : Int) != ((2 ^ (h % 64) ||| 2 ^ (h / 2 ^ s.toNat % 64) : Nat) : Int))) := Lib.hid (by
    rw [marks_miss m _ _ (by omega) k1 k2, lacksB, Int.toNat_natCast, List.getD_eq_getElem?_getD, hx]; rfl)
  have HR := Lib.hid (sright_any (w.alloc (.cells #[.slice (some ⟨b, off, none⟩) ws.length c, .int .i64 s] 30 (0, 0))) ws (some ⟨b, off, none⟩) c s (by omega))
  have HM := Lib.hid (fun w => smarks_any w (some ⟨b, off, none⟩) ws.length c s h hh hn1.1 hn1.2 hs1 hs2)
  have HW := Lib.hid (pow_word h ws.length hh hp)
  have HB := Lib.hid (marks_bits (h % 64) (h / 2 ^ s.toNat % 64) k1 k2)
  have F1 := Lib.hid (heap_alloc_new w (.cells #[.slice (some ⟨b, off, none⟩) ws.length c, .int .i64 s] 30 (0, 0)))
  have B1 := Lib.hid ((Below.refl w.heap.size w).alloc (Nat.le_refl _) (.cells #[.slice (some ⟨b, off, none⟩) ws.length c, .int .i64 s] 30 (0, 0)))
  have Hat := Lib.hid hat
  have hz1 : w.heap.size < (w.alloc (.cells #[.slice (some ⟨b, off, none⟩) ws.length c, .int .i64 s] 30 (0, 0))).heap.size := by simp
  clear hat hr hw hp hn hc hm
  rw [hse] at HR
  go_enter Try.func63, Try.ntmps63
  go_wp2_with fail
  generalize w.alloc (.cells #[.slice (some ⟨b, off, none⟩) ws.length c, .int .i64 s] 30 (0, 0)) = w1 at *
  refine HR.out.mono ?_
  rintro e w2 ⟨rfl, hb2⟩
  have B2 := Lib.hid (B1.out.trans (hb2.mono (by omega)))
  have F2 := (hb2.block _ hz1).trans F1.out
  have c0 : w2.cell? ⟨w.heap.size, 0, none⟩ = some (.slice (some ⟨b, off, none⟩) ws.length c) := by rw [Lib.cell_of_heap F2]; rfl
  have c1 : w2.cell? ⟨w.heap.size, 1, none⟩ = some (.int .i64 s) := by rw [Lib.cell_of_heap F2]; rfl
  have hz2 := hb2.size
  clear hb2 HR F1
  go_wp2_with fail
  refine (HM.out _).mono ?_
  rintro e w3 ⟨rfl, hb3⟩
  have B3 := Lib.hid (B2.out.trans (hb3.mono (by omega)))
  have F3 := (hb3.block w.heap.size (by omega)).trans F2
  have d0 : w3.cell? ⟨w.heap.size, 0, none⟩ = some (.slice (some ⟨b, off, none⟩) ws.length c) := by rw [Lib.cell_of_heap F3]; rfl
  have d1 : w3.cell? ⟨w.heap.size, 1, none⟩ = some (.int .i64 s) := by rw [Lib.cell_of_heap F3]; rfl
  have hz3 := hb3.size
  have hc := (Hat.out.below B3.out).word1 _ _ hx
  rw [HW.out, HB.out]
  clear hb3 F2 HM c0 c1 HW HB F3 hx
  generalize 2 ^ (h % 64) ||| 2 ^ (h / 2 ^ s.toNat % 64) = K at *
  generalize h / 64 % ws.length = q at *
  have hsb := World.block_lt_of_cell? _ _ hc
  have hsw : w.heap.size < w3.heap.size := by omega
  go_wp2_with fail
  go_quiet (fail)
  go_wp2
  go_ret
  exact ⟨by rw [Hres.out]; rfl, below_drewN (B3.out.alloc (by omega) _) _⟩

end Go.Proofs.Ytbliedldlimpgaa

namespace Go.Proofs.Ytbliedldlimpgaa
set_option linter.unusedVariables false
set_option linter.unusedSimpArgs false
open Go.RowKit

set_option maxHeartbeats 8000000 in
set_option maxRecDepth 100000 in
theorem jlacks_any (w : World) (v : Value) (ws : List Int) (s : Int) (h : Nat) (hw : LB kWord (· < w.heap.size) w v ws) (hr : ∀ x ∈ ws, 0 ≤ x ∧ x < 18446744073709551616) (hh : h < 4294967296) (hs : sieveB ws s = true) :
    Calls Try.prog 78 #[.agg #[v, .int .i64 s], .int .u32 h] w fun e w' => e = .returned (.bool (lacksB ws s (h : Int))) ∧ Below w.heap.size w w' := by
  obtain ⟨a, b, off, c, rfl, hm, hc, hat⟩ := hw.at
  have hsB := hs
  rw [sieveB_pow] at hs
  simp only [Bool.and_eq_true, decide_eq_true_eq] at hs
  obtain ⟨⟨hp, hs1⟩, hs2⟩ := hs
  have hn := (powB_iff _).1 hp
  have hn1 : 1 ≤ ws.length ∧ ws.length ≤ 64 := by omega
  obtain rfl := hat.addr (by omega)
  have hk : h / 64 % ws.length < ws.length := Nat.mod_lt _ (by omega)
  obtain ⟨x, hx⟩ : ∃ x, ws[h / 64 % ws.length]? = some x := ⟨_, List.getElem?_eq_getElem hk⟩
  have hxr := hr x (List.mem_of_getElem? hx)
  obtain ⟨m, rfl⟩ : ∃ m : Nat, x = m := ⟨x.toNat, by omega⟩
  obtain ⟨sn, rfl⟩ : ∃ sn : Nat, s = sn := ⟨s.toNat, by omega⟩
  have k1 : h % 64 < 64 := Nat.mod_lt _ (by decide)
  have k2 : h / 2 ^ sn % 64 < 64 := Nat.mod_lt _ (by decide)
  have Hres : Hid (lacksB ws (sn : Int) (h : Int) = (!bitB (m : Int) (h % 64) || !bitB (m : Int) (h / 2 ^ sn % 64))) := Lib.hid (by
    rw [lacksB, Int.toNat_natCast, List.getD_eq_getElem?_getD, hx, Int.toNat_natCast, Bool.not_and]; rfl)
  have HR := Lib.hid (jfright_any (w.alloc (.cells #[.slice (some ⟨b, off, none⟩) ws.length c, .int .i64 (sn : Int)] 30 (0, 0))) ws (some ⟨b, off, none⟩) c sn (by omega))
  rw [hsB] at HR
  have H1 := Lib.hid (fun w => jhas_any w m (h % 64) (by omega) (by omega))
  have H2 := Lib.hid (fun w => jhas_any w m (h / 2 ^ sn % 64) (by omega) (by omega))
  have H3 := Lib.hid (fun w => jshifted_any w h sn hh (by omega))
  have hq : h / 2 ^ sn ≤ h := Nat.div_le_self _ _
  have F1 := Lib.hid (heap_alloc_new w (.cells #[.slice (some ⟨b, off, none⟩) ws.length c, .int .i64 (sn : Int)] 30 (0, 0)))
  have B1 := Lib.hid ((Below.refl w.heap.size w).alloc (Nat.le_refl _) (.cells #[.slice (some ⟨b, off, none⟩) ws.length c, .int .i64 (sn : Int)] 30 (0, 0)))
  have Hat := Lib.hid hat
  have hz1 : w.heap.size < (w.alloc (.cells #[.slice (some ⟨b, off, none⟩) ws.length c, .int .i64 (sn : Int)] 30 (0, 0))).heap.size := by simp
  clear hat hr hw hp hn hc hm hsB
  go_enter Try.func78, Try.ntmps78
  go_wp2_with fail
  generalize w.alloc (.cells #[.slice (some ⟨b, off, none⟩) ws.length c, .int .i64 (sn : Int)] 30 (0, 0)) = w1 at *
  refine HR.out.mono ?_
  rintro e w2 ⟨rfl, hb2⟩
  have B2 := Lib.hid (B1.out.trans (hb2.mono (by omega)))
  have F2 := (hb2.block _ hz1).trans F1.out
  have c0 : w2.cell? ⟨w.heap.size, 0, none⟩ = some (.slice (some ⟨b, off, none⟩) ws.length c) := by rw [Lib.cell_of_heap F2]; rfl
  have c1 : w2.cell? ⟨w.heap.size, 1, none⟩ = some (.int .i64 (sn : Int)) := by rw [Lib.cell_of_heap F2]; rfl
  have hz2 := hb2.size
  have hcx := (Hat.out.below B2.out).word1 _ _ hx
  have e1 : ((h : Int) / 64).tmod (ws.length : Int) = ((h / 64 % ws.length : Nat) : Int) := by
    rw [Int.tmod_eq_emod_of_nonneg (by omega), Int.natCast_emod]; rfl
  have hl0 : ((ws.length : Int) == 0) = false := by rw [beq_eq_false_iff_ne]; omega
  clear hb2 HR F1 F2 hx
  generalize h / 64 % ws.length = q at *
  go_wp2_with fail
  go_quiet (fail)
  have e2 : ((h : Int)).tmod 64 = ((h % 64 : Nat) : Int) := by rw [Int.tmod_eq_emod_of_nonneg (by omega)]; omega
  generalize hb1 : h % 64 = b1 at *
  generalize h / 2 ^ sn = hd at *
  have e3 : (hd : Int).tmod 64 = ((hd % 64 : Nat) : Int) := by rw [Int.tmod_eq_emod_of_nonneg (by omega)]; omega
  generalize hb2 : hd % 64 = b2 at *
  go_wp2_with fail
  refine (H1.out _).mono ?_
  rintro e w3 ⟨rfl, rfl⟩
  go_wp2_with fail
  refine (H3.out _).mono ?_
  rintro e w3 ⟨rfl, rfl⟩
  go_wp2_with fail
  refine (H2.out _).mono ?_
  rintro e w3 ⟨rfl, rfl⟩
  cases hx1 : bitB (m : Int) b1
  all_goals
    have Hx1 := Lib.hid hx1
    clear hx1
    go_wp2
    go_ret
    exact ⟨by rw [Hres.out, Hx1.out]; rfl, below_drewN B2.out _⟩

end Go.Proofs.Ytbliedldlimpgaa

/- A region that draws its order, whose operations only read and whose callees may make memory of their own: one walk, in the order of the text. The worlds that may come up: all those in which what stood ahead of the region is as it was. -/
namespace Go.Proofs.Ytbliedldlimpgaa
set_option linter.unusedVariables false
set_option linter.unusedSimpArgs false
open Go.RowKit

/-- a world in which all that stood in w is as it was -/
structure Later (w : World) where
  w' : World
  h : Below w.heap.size w w'
instance Later.inst (w : World) : Nonempty (Later w) := ⟨⟨w, Below.refl _ w⟩⟩
theorem Later.cell {w : World} (x : Later w) {p : Addr} {v : Value} (c : w.cell? p = some v) : x.w'.cell? p = some v := (x.h.cell (World.block_lt_of_cell? _ _ c)).trans c
theorem Later.lt {w : World} (x : Later w) {n : Nat} (h : n < w.heap.size) : n < x.w'.heap.size := Nat.lt_of_lt_of_le h x.h.size
theorem Later.call {P : Program} {w : World} (x : Later w) {f : FuncId} {args : Array Value} {v : Value} (h : Calls P f args x.w' fun e w' => e = .returned v ∧ Below x.w'.heap.size x.w' w') :
    Calls P f args x.w' fun e w'' => e = .returned v ∧ ∃ y : Later w, w'' = y.w' :=
  h.mono fun _ w' ⟨he, hb⟩ => ⟨he, ⟨⟨w', x.h.trans (hb.mono x.h.size)⟩, rfl⟩⟩
theorem Later.call_same {P : Program} {w : World} (x : Later w) {f : FuncId} {args : Array Value} {v : Value} (h : Calls P f args x.w' fun e w' => e = .returned v ∧ w' = x.w') :
    Calls P f args x.w' fun e w'' => e = .returned v ∧ ∃ y : Later w, w'' = y.w' :=
  h.mono fun _ w' ⟨he, hb⟩ => ⟨he, ⟨x, hb⟩⟩
theorem wp_region_later {P : Program} {id : Nat} {Q : Exit → Act → World → Prop} {a : Act} {w : World} {l : List Oper} (hm : P.follows .mixedOrders = true) (hB : Region.lexB .any l.toArray = true)
    (h : wpQuiet P l.toArray (fun w' => ∃ x : Later w, w' = x.w') (fun a' => ∀ w', (∃ x : Later w, w' = x.w') → Q .normal a' w') l a) : (Code.region id l.toArray true).wp P Q a w :=
  wp_region_quiet (C := fun w' => ∃ x : Later w, w' = x.w') hm hB ⟨⟨_, (Below.refl _ w).drew⟩, rfl⟩ (by simpa using h)

end Go.Proofs.Ytbliedldlimpgaa
