/- the law FilesRefused, walked -/
import Derived.Test.YtgoecmfjidcieaaDoorFL3
import Derived.Test.YtgoecmfjidcieaaDoorPH2
namespace Go.Proofs.YtgoecmfjidcieaaDoor
set_option linter.unusedVariables false
set_option linter.unusedSimpArgs false
open Go.RowKit

theorem Strs.below {w w' : World} {v : Value} {xs : List (List UInt8)} (h : Strs w v xs) (hb : Below w.heap.size w w') : Strs w' v xs := by
  obtain ⟨a, blk, off, cap, h1, h2, h3, h4, h5⟩ := h
  exact ⟨a, blk, off, cap, h1, h2, h3, h4, fun i hi => (hb.cell (p := ⟨blk, off + i, none⟩) (World.block_lt_of_cell? _ _ (h5 i hi))).trans (h5 i hi)⟩

set_option maxHeartbeats 16000000 in
set_option maxRecDepth 100000 in
theorem law_refused (m : Int) (w : World) (v bv pv : Value) (l : List ActL) (x : ActL) (ps : List (List UInt8)) (hm : w.cell? ⟨0, 0, none⟩ = some (.int .i64 m)) (hv : Acts w v l) (hb : BytesV w bv x.bytes) (hbl : x.bytes.length ≤ 140737488355328) (hp : Strs w pv ps) :
    Calls Tryd.prog 7 #[v, .agg #[.int .i64 x.what, .string ⟨x.a.toArray⟩, .string ⟨x.b.toArray⟩, bv], pv] w fun e w' => e = .returned (.bool true) ∧ Below w.heap.size w w' := by
  have h0lt : 0 < w.heap.size := World.block_lt_of_cell? _ _ hm
  have hlen : l.length ≤ 4611686018427387000 := by obtain ⟨_, _, _, _, _, h, _⟩ := hv; exact h
  obtain ⟨W1, hW1⟩ : ∃ y, y = w.alloc (.cells #[.int .i64 x.what, .string ⟨x.a.toArray⟩, .string ⟨x.b.toArray⟩, bv] 43) := ⟨_, rfl⟩
  have HW1 := Lib.hid hW1
  have hB1 : Below w.heap.size w W1 := by rw [hW1]; exact (Below.refl _ w).alloc (Nat.le_refl _) _
  have HB1 := Lib.hid hB1
  have Hbox : Hid (W1.heap[w.heap.size]? = some (.cells #[.int .i64 x.what, .string ⟨x.a.toArray⟩, .string ⟨x.b.toArray⟩, bv] 43 (0, 0))) := Lib.hid (by rw [hW1]; exact heap_alloc_new _ _)
  have Hsz : Hid (W1.heap.size = w.heap.size + 1) := Lib.hid (by rw [hW1]; simp)
  have Hm : Hid (∀ w', Below w.heap.size w w' → w'.cell? ⟨0, 0, none⟩ = some (.int .i64 m)) := Lib.hid (fun w' hb => (hb.cell (p := ⟨0, 0, none⟩) h0lt).trans hm)
  have HA := Lib.hid (awake_any m W1 (Hm.out W1 hB1))
  rw [HW1.out] at HA
  have HPl : Hid (∀ w', Below w.heap.size w w' → _) := Lib.hid (fun w' hb' => played_any m w' v l (Hm.out w' hb') (hv.below hb'))
  have Hbv : Hid (∀ w', Below w.heap.size w w' → BytesV w' bv x.bytes) := Lib.hid (fun w' h => hb.below h)
  have Hp : Hid (∀ w', Below w.heap.size w w' → Strs w' pv ps) := Lib.hid (fun w' h => hp.below h)
  obtain ⟨ba, bc, hbf⟩ := hb.form
  obtain ⟨va, vn, vc, rfl⟩ : ∃ va vn vc, v = .slice va vn vc := by obtain ⟨a, _, _, c, h, _⟩ := hv; exact ⟨a, _, c, h⟩
  obtain ⟨pa, pblk, poff, pcap, rfl, hpm, hpa, hpc, hpcell⟩ := hp
  have Hpcell := Lib.hid hpcell
  have Hok := Lib.hid (play_ok l)
  have Hlt := Lib.hid (play_lt l hlen)
  have Hbl := Lib.hid hbl
  obtain ⟨pn, hpn⟩ : ∃ pn, pn = ps.length := ⟨_, rfl⟩
  rw [← hpn] at hpm hpa hpc Hpcell Hp ⊢
  clear hm hv hb hlen hB1 hW1 hpcell hbl hpn hbf
  generalize playL StL.new l = st at *
  go_enter Tryd.func7, Tryd.ntmps7
  go_wp2_with fail
  refine HA.out.mono ?_
  rintro e w1 ⟨rfl, hb1⟩
  rw [← HW1.out] at hb1
  have HB2 := Lib.hid (HB1.out.trans (hb1.mono (show w.heap.size ≤ W1.heap.size by rw [Hsz.out]; omega)))
  have HX := Lib.hid (HPl.out w1 HB2.out)
  have Hbox1 := Lib.hid ((hb1.block w.heap.size (by rw [Hsz.out]; omega)).trans Hbox.out)
  have Hs1 := Lib.hid (show w.heap.size < w1.heap.size by have := hb1.size; rw [Hsz.out] at this; omega)
  clear hb1 HA HPl Hbox Hsz
  go_wp2_with fail
  refine HX.out.mono ?_
  rintro e w2 ⟨s, b, rfl, hmd⟩
  have HB3 := Lib.hid (HB2.out.trans (hmd.bel.mono HB2.out.size))
  have HSM := Lib.hid hmd.sm
  have hs0 := hmd.s0
  have hb0 := hmd.b0
  have Hbox2 := Lib.hid ((hmd.bel.block w.heap.size Hs1.out).trans Hbox1.out)
  have HCp := Lib.hid (copy_any w2 s b st hmd.sm)
  have hslt := hmd.sm.lt
  have hblt := hmd.sm.blt
  have hws := Hs1.out
  clear hmd HX HB1 HB2 Hbox1 Hs1
  go_wp2_with fail
  refine HCp.out.mono ?_
  rintro e w3 ⟨s2, b2, rfl, hsm2, hs2, hb2, hbel3⟩
  have HB4 := Lib.hid (HB3.out.trans (hbel3.mono HB3.out.size))
  have HSM3 := Lib.hid (HSM.out.below hbel3)
  have HSMc := Lib.hid hsm2
  have hbox3 := (hbel3.block w.heap.size (by omega)).trans Hbox2.out
  have k0 : w3.cell? ⟨w.heap.size, 0, none⟩ = some (.int .i64 x.what) := by rw [Lib.cell_of_heap hbox3]; rfl
  have k1 : w3.cell? ⟨w.heap.size, 1, none⟩ = some (.string ⟨x.a.toArray⟩) := by rw [Lib.cell_of_heap hbox3]; rfl
  have k2 : w3.cell? ⟨w.heap.size, 2, none⟩ = some (.string ⟨x.b.toArray⟩) := by rw [Lib.cell_of_heap hbox3]; rfl
  have k3 : w3.cell? ⟨w.heap.size, 3, none⟩ = some bv := by rw [Lib.cell_of_heap hbox3]; rfl
  have HD := Lib.hid (does_any m w3 s b st x bv (Hm.out w3 HB4.out) HSM3.out Hok.out Hlt.out (Hbv.out w3 HB4.out) Hbl.out)
  have Herr : Hid ((doesL st x).1 ≠ 0 → (doesL st x).2 = st) := Lib.hid (fun h => does_err h)
  have hs2l := hsm2.lt
  have hb2l := hsm2.blt
  clear hsm2 hbel3 hbox3 HSM HB3 HCp Hbox2
  have hsz4 := HB4.out.size
  by_cases hr : (doesL st x).1 = 0
  · generalize doesL st x = P at *
    obtain ⟨r, st1⟩ := P
    try simp only at hr HD
    subst hr
    go_wp2_with fail
    refine HD.out.mono ?_
    rintro e w4 ⟨rfl, hS, hT⟩
    have HB5 := Lib.hid (show Below w.heap.size w w4 from ⟨hT.os.trans HB4.out.os, hT.tape.trans HB4.out.tape, hT.output.trans HB4.out.output, Nat.le_trans HB4.out.size hT.size, fun k hk => (hT.block k (by omega) (by omega) (by omega)).trans (HB4.out.block k hk)⟩)
    clear hS hT k0 k1 k2 k3
    go_wp2
    go_ret
    exact ⟨rfl, HB5.out⟩
  rw [Herr.out hr] at HD
  generalize (doesL st x).1 = r at *
  have hrb : (r == 0) = false := by simp [hr]
  clear hr Herr
  go_wp2_with fail
  refine HD.out.mono ?_
  rintro e w4 ⟨rfl, hS, hT⟩
  have HB5 := Lib.hid (show Below w.heap.size w w4 from ⟨hT.os.trans HB4.out.os, hT.tape.trans HB4.out.tape, hT.output.trans HB4.out.output, Nat.le_trans HB4.out.size hT.size, fun k hk => (hT.block k (by omega) (by omega) (by omega)).trans (HB4.out.block k hk)⟩)
  have HS4 := Lib.hid hS
  have HSc4 := Lib.hid (HSMc.out.keep2 (hT.block s2 hs2l (by omega) (by omega)) (hT.block b2 hb2l (by omega) (by omega)))
  clear hS hT k0 k1 k2 k3 HSMc HSM3 HB4 HD hs2 hb2 hs0 hb0 hslt hblt hws hs2l hb2l hsz4
  go_wp2
  go_loopw [10] (fun i wr => ∃ k : Nat, i = .int .i64 k ∧ k ≤ pn ∧ SM s b wr st ∧ SM s2 b2 wr st ∧ Below w.heap.size w wr) (fun i _ => pn - (intOf i).toNat)
  case atStart => exact ⟨0, rfl, Nat.zero_le _, HS4.out, HSc4.out, HB5.out⟩
  case round =>
    clear HS4 HSc4 HB5
    obtain ⟨k, rfl, hk, hSs, hSc, hbel⟩ := hrel
    have HBr := Lib.hid hbel
    by_cases hlt : k < pn
    · obtain rfl := hpa (by omega)
      have g0 := Hpcell.out k hlt
      have hpb : pblk < w.heap.size := World.block_lt_of_cell? _ _ g0
      have hcell : wr.cell? ⟨pblk, poff + k, none⟩ = some (.string ⟨(snth ps k).toArray⟩) := (hbel.cell (p := ⟨pblk, poff + k, none⟩) hpb).trans g0
      have Hcell := Lib.hid hcell
      have hk0 : (0 : Int) ≤ (k : Int) := Int.natCast_nonneg _
      have hk2 : (k : Int) < (pn : Int) := by omega
      have HSs := Lib.hid hSs
      have HSc := Lib.hid hSc
      clear hSs hSc hbel g0
      generalize snth ps k = t at *
      have HN1 := Lib.hid (names_any m wr s b st t (Hm.out wr HBr.out) HSs.out Hok.out)
      have HN2 : Hid (∀ w', Below wr.heap.size wr w' → _) := Lib.hid (fun w' hb => names_any m w' s2 b2 st t (Hm.out w' (HBr.out.trans (hb.mono HBr.out.size))) (HSc.out.below hb) Hok.out)
      have HF1 : Hid (∀ w', Below wr.heap.size wr w' → _) := Lib.hid (fun w' hb => find_any m w' s b st t (Hm.out w' (HBr.out.trans (hb.mono HBr.out.size))) (HSs.out.below hb) Hok.out.st)
      have HF2 : Hid (∀ w', Below wr.heap.size wr w' → _) := Lib.hid (fun w' hb => find_any m w' s2 b2 st t (Hm.out w' (HBr.out.trans (hb.mono HBr.out.size))) (HSc.out.below hb) Hok.out.st)
      have HK1 : Hid (∀ w', Below wr.heap.size wr w' → _) := Lib.hid (fun w' hb => kind_any m w' s b st t (Hm.out w' (HBr.out.trans (hb.mono HBr.out.size))) (HSs.out.below hb) Hok.out)
      have HK2 : Hid (∀ w', Below wr.heap.size wr w' → _) := Lib.hid (fun w' hb => kind_any m w' s2 b2 st t (Hm.out w' (HBr.out.trans (hb.mono HBr.out.size))) (HSc.out.below hb) Hok.out)
      have Hone : Hid (∀ l l', NamesIs st t l → NamesIs st t l' → l = l') := Lib.hid (fun l l' h h' => h.one h')
      generalize NamesIs st t = NI at *
      generalize namesE st t = ne at *
      generalize kindL st t = kd at *
      generalize (fileL st t).2 = fe at *
      generalize (fileL st t).1.id = fi at *
      go_wp2_with fail
      refine HN1.out.mono ?_
      rintro e v1 ⟨x1, l1, rfl, ho1, hn1, hl1, hbv1⟩
      have HV1 := Lib.hid hbv1
      have HS1 := Lib.hid ho1.strs
      have Hn1 := Lib.hid hn1
      have Hc1 := Lib.hid (HN2.out v1 hbv1)
      have c1 := (hbv1.cell (p := ⟨pblk, poff + k, none⟩) (World.block_lt_of_cell? _ _ hcell)).trans hcell
      obtain ⟨xa1, xc1, rfl⟩ := ho1.form
      clear ho1 hn1 hbv1 hcell HN1
      obtain ⟨ln1, hln1⟩ : ∃ ln1, ln1 = l1.length := ⟨_, rfl⟩
      rw [← hln1] at HS1 hl1 ⊢
      clear hln1
      go_wp2_with fail
      refine Hc1.out.mono ?_
      rintro e v2 ⟨x2, l2, rfl, ho2, hn2, hl2, hbv2⟩
      have HV2 := Lib.hid (HV1.out.trans (hbv2.mono HV1.out.size))
      have hll := Hone.out _ _ Hn1.out hn2
      subst hll
      have HS12 := Lib.hid (HS1.out.below hbv2)
      have HS2 := Lib.hid ho2.strs
      have Hc2 := Lib.hid (HF1.out v2 HV2.out)
      have c2 := (hbv2.cell (p := ⟨pblk, poff + k, none⟩) (World.block_lt_of_cell? _ _ c1)).trans c1
      obtain ⟨xa2, xc2, rfl⟩ := ho2.form
      obtain ⟨ln2, hln2⟩ : ∃ ln2, ln2 = l1.length := ⟨_, rfl⟩
      rw [← hln2] at HS2 ⊢
      clear ho2 hn2 hbv2 hln2 c1 Hc1 HS1 HV1 Hn1 Hone HN2
      go_wp2_with fail
      refine Hc2.out.mono ?_
      rintro e v3 ⟨rfl, hbv3⟩
      have HV3 := Lib.hid (HV2.out.trans (hbv3.mono HV2.out.size))
      have HS13 := Lib.hid (HS12.out.below hbv3)
      have HS23 := Lib.hid (HS2.out.below hbv3)
      have Hc3 := Lib.hid (HF2.out v3 HV3.out)
      have c3 := (hbv3.cell (p := ⟨pblk, poff + k, none⟩) (World.block_lt_of_cell? _ _ c2)).trans c2
      clear hbv3 c2 Hc2 HS12 HS2 HV2 HF1
      go_wp2_with fail
      refine Hc3.out.mono ?_
      rintro e v4 ⟨rfl, hbv4⟩
      have HV4 := Lib.hid (HV3.out.trans (hbv4.mono HV3.out.size))
      have HS14 := Lib.hid (HS13.out.below hbv4)
      have HS24 := Lib.hid (HS23.out.below hbv4)
      have c4 := (hbv4.cell (p := ⟨pblk, poff + k, none⟩) (World.block_lt_of_cell? _ _ c3)).trans c3
      clear hbv4 c3 Hc3 HS13 HS23 HV3 HF2
      have lc := fun x : Later v4 => x.cell c4
      have i1 : (ne != ne) = false := by simp
      have i2 : (fi != fi) = false := by simp
      have i3 : (fe != fe) = false := by simp
      have i4 : (kd != kd) = false := by simp
      have HT : Hid (∀ w', Below v4.heap.size v4 w' → _) := Lib.hid (fun w' hb => texts_same w' _ _ l1 (HS14.out.below hb) (HS24.out.below hb) (Nat.le_trans hl2 (by decide)))
      have HKv : Hid (∀ sp, sp = s ∨ sp = s2 → ∀ w', Below v4.heap.size v4 w' → Calls Tryd.prog 21 #[.pointer (some ⟨sp, 0, none⟩), .string ⟨t.toArray⟩] w' fun e w'' => e = .returned (.int .i64 kd) ∧ Below w'.heap.size w' w'') := Lib.hid (fun sp hsp w' hb => by
        rcases hsp with rfl | rfl
        · exact HK1.out w' (HV4.out.trans (hb.mono HV4.out.size))
        · exact HK2.out w' (HV4.out.trans (hb.mono HV4.out.size)))
      clear c4 HK1 HK2 hl2 hl1
      go_upto_region 17 with fail
      refine wp_region_later (by kernel_rfl) (by kernel_rfl) ?_
      repeat (go_big_quiet_step (first | (go_at_call 25; refine Later.call _ (HT.out _ (Later.h _))) | (go_at_call 21; refine Later.call _ (HKv.out _ ?_ _ (Later.h _)); first | exact Or.inl rfl | exact Or.inr rfl)))
      refine wpQuiet_nil ?_
      rintro wq ⟨⟨_, hq⟩, rfl⟩
      try simp only at hq
      have HB6 := Lib.hid (HBr.out.trans ((HV4.out.trans (hq.mono HV4.out.size)).mono HBr.out.size))
      have HSs6 := Lib.hid (HSs.out.below (HV4.out.trans (hq.mono HV4.out.size)))
      have HSc6 := Lib.hid (HSc.out.below (HV4.out.trans (hq.mono HV4.out.size)))
      clear hq lc
      go_wp2
      go_roundw
      case rel => exact ⟨k + 1, by go_num, by omega, HSs6.out, HSc6.out, HB6.out⟩
      case measure => simp [intOf]; omega
    · clear hSs hSc hbel
      go_wp2
      go_ret
      exact ⟨rfl, HBr.out⟩

end Go.Proofs.YtgoecmfjidcieaaDoor
