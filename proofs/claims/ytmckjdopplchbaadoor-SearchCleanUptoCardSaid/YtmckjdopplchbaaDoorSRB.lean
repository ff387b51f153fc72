/- Lemmas that the claim is proved from: what calls of functions of the program come to (contracts), and plain laws. Each lemma bears its own conditions. -/
import Derived.Test.YtmckjdopplchbaaDoorSRA
import Derived.Deep.RegionHeld3
namespace Go.Proofs.YtmckjdopplchbaaDoor
set_option linter.unusedVariables false
set_option linter.unusedSimpArgs false
open Go.RowKit

theorem want_cells {x : World} {b : Nat} {a0 a1 a2 a3 a4 : Value} (h : x.heap[b]? = some (.cells #[a0, a1, a2, a3, a4] 40 (0, 0))) :
    x.cell? ⟨b, 0, none⟩ = some a0 ∧ x.cell? ⟨b, 1, none⟩ = some a1 ∧ x.cell? ⟨b, 2, none⟩ = some a2 ∧ x.cell? ⟨b, 3, none⟩ = some a3 ∧ x.cell? ⟨b, 4, none⟩ = some a4 := by
  refine ⟨?_, ?_, ?_, ?_, ?_⟩ <;> (rw [Lib.cell_of_heap h]; rfl)
theorem ccand_eq (w : World) (name o : List UInt8) (rpv pv cv : Value) (rp ps : List (List UInt8)) (ks : List (List UInt8 × List UInt8))
    (hrp : StrsB w.heap.size w rpv rp) (hps : StrsB w.heap.size w pv ps) (hks : PairsB w.heap.size w cv ks) (ho : o.length ≤ 5000) (hz : name.length ≤ 9223372036854775807) (hl : rp.length + ps.length ≤ 16000000) (r : List (List UInt8) × Int) (hr : candL name o rp ps ks = r) :
    Calls Tryd.prog 23 #[.string ⟨name.toArray⟩, .string ⟨o.toArray⟩, rpv, .agg #[pv, cv]] w (CandPost w r) := by
  subst hr
  exact ccand_any w name o rpv pv cv rp ps ks hrp hps hks ho hz hl
theorem StrsB.form {B : Nat} {w : World} {v : Value} {xs : List (List UInt8)} (h : StrsB B w v xs) : ∃ a c, v = .slice a xs.length c := by
  obtain ⟨a, b, off, cap, hv, _⟩ := h
  exact ⟨a, cap, hv⟩

set_option maxHeartbeats 8000000 in
set_option maxRecDepth 100000 in
theorem law_slists (m : Int) (w : World) (name o : List UInt8) (rpv pv cv : Value) (rp ps : List (List UInt8)) (ks : List (List UInt8 × List UInt8)) (hm : w.cell? ⟨0, 0, none⟩ = some (.int .i64 m))
    (hrp : StrsB w.heap.size w rpv rp) (hps : StrsB w.heap.size w pv ps) (hks : PairsB w.heap.size w cv ks) (hzo : ByteArray.size ⟨o.toArray⟩ ≤ maxLen) (hz : name.length ≤ 9223372036854775807) (hl : rp.length + ps.length + ks.length ≤ 1048576) :
    Calls Tryd.prog 9 #[.agg #[.string ⟨name.toArray⟩, .string ⟨o.toArray⟩, rpv, pv, cv]] w fun e w' => e = .returned (.bool true) ∧ Below w.heap.size w w' := by
  have h0 : 0 < w.heap.size := World.block_lt_of_cell? w _ hm
  have Hm := Lib.hid hm
  have Hrp := Lib.hid hrp
  have Hps := Lib.hid hps
  have Hks := Lib.hid hks
  have F1 := heap_alloc_new w (.cells #[.string ⟨name.toArray⟩, .string ⟨o.toArray⟩, rpv, pv, cv] 40 (0, 0))
  have B1 := Lib.hid ((Below.refl w.heap.size w).alloc (Nat.le_refl _) (.cells #[.string ⟨name.toArray⟩, .string ⟨o.toArray⟩, rpv, pv, cv] 40 (0, 0)))
  have hz1 : (w.alloc (.cells #[.string ⟨name.toArray⟩, .string ⟨o.toArray⟩, rpv, pv, cv] 40 (0, 0))).heap.size = w.heap.size + 1 := by simp
  have HF1 := Lib.hid F1
  have HZ1 := Lib.hid hz1
  clear hm hrp hps hks F1 hz1
  go_enter Tryd.func9, Tryd.ntmps9
  go_wp2_with fail
  generalize w.alloc (.cells #[.string ⟨name.toArray⟩, .string ⟨o.toArray⟩, rpv, pv, cv] 40 (0, 0)) = w1 at *
  refine (sawake_any m w1 (by rw [B1.out.cell (p := ⟨0, 0, none⟩) h0]; exact Hm.out)).mono ?_
  rintro e w2 ⟨rfl, hb2⟩
  have F2 := Lib.hid ((hb2.block w.heap.size (by have := HZ1.out; omega)).trans HF1.out)
  have B2 := Lib.hid (B1.out.trans (hb2.mono (by have := HZ1.out; omega)))
  have Z2 := Lib.hid (show w.heap.size + 1 ≤ w2.heap.size by have := HZ1.out; have := hb2.size; omega)
  have c0 : w2.cell? ⟨w.heap.size, 0, none⟩ = some (.string ⟨name.toArray⟩) := by rw [Lib.cell_of_heap F2.out]; rfl
  have c1 : w2.cell? ⟨w.heap.size, 1, none⟩ = some (.string ⟨o.toArray⟩) := by rw [Lib.cell_of_heap F2.out]; rfl
  have c2 : w2.cell? ⟨w.heap.size, 2, none⟩ = some rpv := by rw [Lib.cell_of_heap F2.out]; rfl
  have c3 : w2.cell? ⟨w.heap.size, 3, none⟩ = some pv := by rw [Lib.cell_of_heap F2.out]; rfl
  have c4 : w2.cell? ⟨w.heap.size, 4, none⟩ = some cv := by rw [Lib.cell_of_heap F2.out]; rfl
  clear hb2
  go_wp2_with fail
  refine (few_any w2 name o rpv pv cv hzo).mono ?_
  rintro e w3 ⟨rfl, hb3⟩
  have F3 := Lib.hid ((hb3.block w.heap.size (by have := Z2.out; omega)).trans F2.out)
  have B3 := Lib.hid (B2.out.trans (hb3.mono B2.out.size))
  have Z3 := Lib.hid (show w.heap.size + 1 ≤ w3.heap.size by have := Z2.out; have := hb3.size; omega)
  clear hb3 c0 c1 c2 c3 c4
  by_cases ho : o.length ≤ 5000
  case neg =>
    have hd : decide (o.length ≤ 5000) = false := by rw [decide_eq_false_iff_not]; exact ho
    clear ho
    go_wp2
    go_ret
    exact ⟨rfl, B3.out⟩
  case pos =>
    have hd : decide (o.length ≤ 5000) = true := by rw [decide_eq_true_eq]; exact ho
    have c0 : w3.cell? ⟨w.heap.size, 0, none⟩ = some (.string ⟨name.toArray⟩) := by rw [Lib.cell_of_heap F3.out]; rfl
    have c1 : w3.cell? ⟨w.heap.size, 1, none⟩ = some (.string ⟨o.toArray⟩) := by rw [Lib.cell_of_heap F3.out]; rfl
    have c2 : w3.cell? ⟨w.heap.size, 2, none⟩ = some rpv := by rw [Lib.cell_of_heap F3.out]; rfl
    have c3 : w3.cell? ⟨w.heap.size, 3, none⟩ = some pv := by rw [Lib.cell_of_heap F3.out]; rfl
    have c4 : w3.cell? ⟨w.heap.size, 4, none⟩ = some cv := by rw [Lib.cell_of_heap F3.out]; rfl
    rw [hd]
    have H4 := Lib.hid (cand_any m w3 name o rpv pv cv rp ps ks (by rw [B3.out.cell (p := ⟨0, 0, none⟩) h0]; exact Hm.out) ((Hrp.out.below B3.out).mono B3.out.size) ((Hps.out.below B3.out).mono B3.out.size) ((Hks.out.below B3.out).mono B3.out.size) ho hz (by omega))
    have hcl := candL_len name o rp ps ks
    go_wp2_with fail
    refine H4.out.mono ?_
    rintro e w4 ⟨u4, rfl, hu4, hb4⟩
    have F4 := Lib.hid ((hb4.block w.heap.size (by have := Z3.out; omega)).trans F3.out)
    have B4 := Lib.hid (B3.out.trans (hb4.mono B3.out.size))
    have S34 := Lib.hid hb4.size
    have U4 := Lib.hid hu4
    clear hu4 hb4 c0 c1 c2 c3 c4 H4
    have c0 : w4.cell? ⟨w.heap.size, 0, none⟩ = some (.string ⟨name.toArray⟩) := by rw [Lib.cell_of_heap F4.out]; rfl
    have c1 : w4.cell? ⟨w.heap.size, 1, none⟩ = some (.string ⟨o.toArray⟩) := by rw [Lib.cell_of_heap F4.out]; rfl
    have c2 : w4.cell? ⟨w.heap.size, 2, none⟩ = some rpv := by rw [Lib.cell_of_heap F4.out]; rfl
    have c3 : w4.cell? ⟨w.heap.size, 3, none⟩ = some pv := by rw [Lib.cell_of_heap F4.out]; rfl
    have c4 : w4.cell? ⟨w.heap.size, 4, none⟩ = some cv := by rw [Lib.cell_of_heap F4.out]; rfl
    have H5 := Lib.hid (cand_any m w4 name o rpv pv cv rp ps ks (by rw [B4.out.cell (p := ⟨0, 0, none⟩) h0]; exact Hm.out) ((Hrp.out.below B4.out).mono B4.out.size) ((Hps.out.below B4.out).mono B4.out.size) ((Hks.out.below B4.out).mono B4.out.size) ho hz (by omega))
    go_wp2_with fail
    refine H5.out.mono ?_
    rintro e w5 ⟨u5, rfl, hu5, hb5⟩
    have F5 := Lib.hid ((hb5.block w.heap.size (by have := Z3.out; have := S34.out; omega)).trans F4.out)
    have B5 := Lib.hid (B4.out.trans (hb5.mono B4.out.size))
    have U45 := Lib.hid (U4.out.below hb5)
    have U5 := Lib.hid hu5
    have S45 := Lib.hid hb5.size
    clear hu5 hb5 c0 c1 c2 c3 c4 H5
    have Hbig : Hid (∀ g cap, u4 = .slice (some ⟨g, 0, none⟩) (candL name o rp ps ks).1.length cap → g < w4.heap.size) := Lib.hid (fun g cap e => (U4.out.lt g (by rw [e]; rfl)).2)
    have Hcl := Lib.hid hcl
    have Hz4 := Lib.hid (show w.heap.size + 1 ≤ w4.heap.size by have := Z3.out; have := S34.out; omega)
    obtain ⟨r, hr⟩ : ∃ r, candL name o rp ps ks = r := ⟨_, rfl⟩
    rw [hr] at U4 U45 U5 Hbig Hcl hcl
    rw [hr]
    have Hr := Lib.hid hr
    clear hr
    obtain ⟨L, n⟩ := r
    simp only at U4 U45 U5 Hbig Hcl hcl
    obtain ⟨aa, ca, hva⟩ := U4.out.form
    subst hva
    go_wp2_with fail
    go_loopw [8] (fun i wr => ∃ (k : Nat) (ys : List (List UInt8)), i = .int .i64 k ∧ k ≤ L.length ∧ ys.length = L.length ∧ OwnS w3.heap.size wr (.slice aa L.length ca) ys ∧ OwnS w4.heap.size wr u5 L ∧ Below w.heap.size w wr ∧ wr.heap[w.heap.size]? = some (.cells #[.string ⟨name.toArray⟩, .string ⟨o.toArray⟩, rpv, pv, cv] 40 (0, 0))) (fun i _ => L.length - (intOf i).toNat)
    case atStart => exact ⟨0, _, rfl, Nat.zero_le _, rfl, U45.out, U5.out, B5.out, F5.out⟩
    case round =>
      obtain ⟨k, ys, rfl, hk, hys, hya, hyb, hbel, hf⟩ := hrel
      have Hya := Lib.hid hya
      have Hyb := Lib.hid hyb
      have Hbel := Lib.hid hbel
      have Hys := Lib.hid hys
      have Hf := Lib.hid hf
      by_cases hlt : k < L.length
      · obtain ⟨g, cap, e, hg, _⟩ := hya.block (by omega)
        rw [hys] at e
        have hg2 := Hbig.out g cap e
        have Hg2 := Lib.hid hg2
        have Hg3 := Lib.hid hg
        injection e with e1 e2 e3
        subst e1
        subst e3
        have c1 : wr.cell? ⟨g, k, none⟩ = some (.string ⟨(snth ys k).toArray⟩) := by
          have := World.ownsRow.cells hya (g := g) rfl k (.string ⟨(snth ys k).toArray⟩) (by simp [strs, snth, List.getD, hys, hlt])
          simpa [Addr.add_lit] using this
        have f1 := Hya.out.frozenAt hys k
        clear hya hyb hbel hys hf
        go_wp2
        go_roundw
        case rel => exact ⟨k + 1, ys.set k [115, 112, 111, 105, 108, 116], by go_num, by omega, by rw [List.length_set]; exact Hys.out, Hya.out.stored Hys.out k _, Hyb.out.other Hg2.out _, Hbel.out.setCell (p := ⟨g, k, none⟩) (Nat.le_trans B3.out.size Hg3.out) _, by
          rw [Below.heap_setCell _ _ _ _ (show w.heap.size ≠ g by have := Hg3.out; have := Z3.out; omega)]; exact Hf.out⟩
        case measure => simp [intOf]; omega
      · have hw := want_cells hf
        have HW := Lib.hid hw
        have Bd := Lib.hid (below_drewN Hbel.out 1)
        have HP6 := Lib.hid (((Hks.out.below Bd.out).mono Bd.out.size))
        have hzr : w.heap.size + 1 ≤ wr.heap.size := by
          rcases Nat.lt_or_ge w.heap.size wr.heap.size with h' | h'
          · omega
          · rw [Array.getElem?_eq_none h'] at hf; cases hf
        obtain ⟨pa, pc, hpe⟩ := Hps.out.form
        subst hpe
        obtain ⟨g0, g1, g2, g3, g4⟩ := hw
        clear hya hyb hbel hys hf
        go_wp2_with fail
        go_region_held3 (fun w' => w'.cell? ⟨w.heap.size, 0, none⟩ = some (.string ⟨name.toArray⟩) ∧ w'.cell? ⟨w.heap.size, 1, none⟩ = some (.string ⟨o.toArray⟩) ∧ w'.cell? ⟨w.heap.size, 2, none⟩ = some rpv ∧ w'.cell? ⟨w.heap.size, 3, none⟩ = some (.slice pa ps.length pc) ∧ w'.cell? ⟨w.heap.size, 4, none⟩ = some cv)
          (first
            | exact HW.out
            | exact hS7.out
            | exact hS6.out)
          (first
            | (go_at_call 24; refine (env_any (wr.drewN 1) pa ps.length pc cv ks HP6.out (by omega)).mono ?_; rintro e w6 ⟨u6, rfl, hp6, hb6⟩; have hf6 := (hb6.block w.heap.size hzr).trans Hf.out; have hS6 := Lib.hid (want_cells hf6); have B6 := Lib.hid (Bd.out.trans (hb6.mono Bd.out.size)); have Hb16 := Lib.hid hb6; have P6 := Lib.hid hp6; have F6 := Lib.hid hf6; have z6 := hb6.size; clear hp6 hb6 hf6)
            | (go_at_call 23; refine (ccand_eq w6 name o rpv (.slice pa ps.length pc) u6 rp ps ks ((Hrp.out.below B6.out).mono B6.out.size) ((Hps.out.below B6.out).mono B6.out.size) P6.out ho hz (by omega) (L, n) Hr.out).mono ?_; rintro e w7 ⟨u7, rfl, hu7, hb7⟩; have hf7 := (hb7.block w.heap.size (Nat.lt_of_lt_of_le hzr z6)).trans F6.out; have hS7 := Lib.hid (want_cells hf7); have B7 := Lib.hid (B6.out.trans (hb7.mono B6.out.size)); have U7 := Lib.hid hu7.strs; have hb67 := Lib.hid hb7; clear hu7 hb7 hf7))
        have U57 := Lib.hid (((OwnS.drewN Hyb.out 1).below Hb16.out).below hb67.out).strs
        go_wp2_with fail
        refine (ssame2_any w7 u5 u7 L L U57.out U7.out).mono ?_
        rintro e w8 ⟨rfl, nq, rfl⟩
        go_wp2
        go_ret
        exact ⟨by simp, below_drewN B7.out nq⟩

end Go.Proofs.YtmckjdopplchbaaDoor
