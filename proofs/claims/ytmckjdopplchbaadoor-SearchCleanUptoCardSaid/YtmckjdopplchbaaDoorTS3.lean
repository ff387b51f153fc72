/- Lemmas that the claim is proved from: what calls of functions of the program come to (contracts), and plain laws. Each lemma bears its own conditions. -/
import Derived.Test.YtmckjdopplchbaaDoorTS2
import Derived.Laws.OwnMore
namespace Go.Proofs.YtmckjdopplchbaaDoor
set_option linter.unusedVariables false
set_option linter.unusedSimpArgs false
open Go.RowKit

theorem OwnS.stored {B : Nat} {w : World} {g n cap : Nat} {ys : List (List UInt8)} (h : OwnS B w (.slice (some ⟨g, 0, none⟩) n cap) ys) (hn : ys.length = n) (i : Nat) (x : List UInt8) :
    OwnS B (w.setCell ⟨g, i, none⟩ (.string ⟨x.toArray⟩)) (.slice (some ⟨g, 0, none⟩) n cap) (ys.set i x) := by
  subst hn
  have := (World.ownsRow.stored h i (.string ⟨x.toArray⟩)).1
  simpa [OwnS, Go.Proofs.YtmckjdopplchbaaDoor.strs, List.map_set] using this
theorem OwnS.frozenAt {B : Nat} {w : World} {g n cap : Nat} {ys : List (List UInt8)} (h : OwnS B w (.slice (some ⟨g, 0, none⟩) n cap) ys) (hn : ys.length = n) (j : Nat) : w.frozen? ⟨g, j, none⟩ = false := by
  subst hn
  exact World.ownsRow.frozenAt h j
theorem OwnS.other {B : Nat} {w : World} {v : Value} {xs : List (List UInt8)} (h : OwnS B w v xs) {a : Addr} (ha : a.block < B) (u : Value) : OwnS B (w.setCell a u) v xs :=
  ownsRow_setCell_below h ha u
theorem OwnS.block {B : Nat} {w : World} {v : Value} {xs : List (List UInt8)} (h : OwnS B w v xs) (h0 : 0 < xs.length) : ∃ g cap, v = .slice (some ⟨g, 0, none⟩) xs.length cap ∧ B ≤ g ∧ g < w.heap.size := by
  have h' := h
  rcases h.2 with ⟨_, hz⟩ | ⟨g, cap, cur, rfl, hg, _⟩
  · omega
  · exact ⟨g, cap, rfl, hg, (h'.lt g rfl).2⟩

set_option maxHeartbeats 4000000 in
set_option maxRecDepth 100000 in
theorem law_splits (m : Int) (w : World) (v : Value) (text : List UInt8) (ps : List (List UInt8)) (hm : w.cell? ⟨0, 0, none⟩ = some (.int .i64 m)) (hv : Strs w v ps) (hb : text.length + bytesN ps + ps.length ≤ 1048576) :
    Calls Tryd.prog 7 #[.string ⟨text.toArray⟩, v] w fun e w' => e = .returned (.bool true) ∧ Below w.heap.size w w' := by
  have h0 : 0 < w.heap.size := World.block_lt_of_cell? w _ hm
  have Hm := Lib.hid hm
  have Hv := Lib.hid hv.toB
  have H1 := Lib.hid (tawake_any m w hm)
  have Hsl := Lib.hid (splitL_len text)
  clear hm hv
  go_enter Tryd.func7, Tryd.ntmps7
  go_wp2_with fail
  refine H1.out.mono ?_
  rintro e w1 ⟨rfl, hb1⟩
  have hm1 : w1.cell? ⟨0, 0, none⟩ = some (.int .i64 m) := by rw [hb1.cell (p := ⟨0, 0, none⟩) h0]; exact Hm.out
  have Hm1 := Lib.hid hm1
  have Hb1 := Lib.hid hb1
  have H2 := Lib.hid (split_any m w1 text hm1 (by omega))
  clear hm1 hb1
  go_wp2_with fail
  refine H2.out.mono ?_
  rintro e w2 ⟨va, rfl, hown2, hb2⟩
  have hm2 : w2.cell? ⟨0, 0, none⟩ = some (.int .i64 m) := by rw [hb2.cell (p := ⟨0, 0, none⟩) (Nat.lt_of_lt_of_le h0 Hb1.out.size)]; exact Hm1.out
  have Hs12 := Lib.hid hb2.size
  have Hb2 := Lib.hid (Hb1.out.trans (hb2.mono Hb1.out.size))
  have Hown2 := Lib.hid hown2
  have H3 := Lib.hid (split_any m w2 text hm2 (by omega))
  clear hm2 hb2 hown2
  go_wp2_with fail
  refine H3.out.mono ?_
  rintro e w3 ⟨vb, rfl, hown3, hb3⟩
  have Hb3 := Lib.hid (Hb2.out.trans (hb3.mono Hb2.out.size))
  have Hs23 := Lib.hid hb3.size
  have Hown23 := Lib.hid (Hown2.out.below hb3)
  have Hown3 := Lib.hid hown3
  have Hbig : Hid (w1.heap.size ≤ w2.heap.size ∧ ∀ g cap, va = .slice (some ⟨g, 0, none⟩) (splitL text).length cap → g < w2.heap.size) := Lib.hid ⟨Hs12.out, fun g cap e => by
    have := Hown2.out.lt g (by rw [e]; rfl)
    exact this.2⟩
  clear hb3 hown3
  obtain ⟨aa, ca, hva⟩ := Hown2.out.form
  go_wp2_with fail
  go_loopw [8] (fun i wr => ∃ (k : Nat) (ys : List (List UInt8)), i = .int .i64 k ∧ k ≤ (splitL text).length ∧ ys.length = (splitL text).length ∧ OwnS w1.heap.size wr va ys ∧ OwnS w2.heap.size wr vb (splitL text) ∧ Below w.heap.size w wr) (fun i _ => (splitL text).length - (intOf i).toNat)
  case atStart => exact ⟨0, _, rfl, Nat.zero_le _, rfl, Hown23.out, Hown3.out, Hb3.out⟩
  case round =>
    obtain ⟨k, ys, rfl, hk, hys, hya, hyb, hbel⟩ := hrel
    have Hya := Lib.hid hya
    have Hyb := Lib.hid hyb
    have Hbel := Lib.hid hbel
    have Hys := Lib.hid hys
    have hslt := Hsl.out
    by_cases hlt : k < (splitL text).length
    · obtain ⟨g, cap, e, hg, _⟩ := hya.block (by omega)
      rw [hys] at e
      have hg2 := Hbig.out.2 g cap e
      subst e
      obtain ⟨_, _, _, _, e1, _, _, _, hcell⟩ := hya.strs
      have c1 : wr.cell? ⟨g, k, none⟩ = some (.string ⟨(snth ys k).toArray⟩) := by
        have := World.ownsRow.cells hya (g := g) rfl k (.string ⟨(snth ys k).toArray⟩) (by simp [strs, snth, List.getD, hys, hlt])
        simpa [Addr.add_lit] using this
      have f1 := Hya.out.frozenAt hys k
      clear hya hyb hbel hys hcell e1
      go_wp2
      go_roundw
      case rel => exact ⟨k + 1, ys.set k [115, 112, 111, 105, 108, 116], by go_num, by omega, by rw [List.length_set]; exact Hys.out, Hya.out.stored Hys.out k _, Hyb.out.other hg2 _, Hbel.out.setCell (p := ⟨g, k, none⟩) (Nat.le_trans Hb1.out.size hg) _⟩
      case measure => simp [intOf]; omega
    · clear hya hyb hbel hys
      subst hva
      have hBr := Hbel.out.size
      have R1 := Lib.hid (rsplit_any wr text (by omega))
      go_wp2_with fail
      refine R1.out.mono ?_
      rintro e w5 ⟨ve, rfl, hown5, hb5⟩
      have Hyb5 := Lib.hid (Hyb.out.below hb5)
      have Hb5 := Lib.hid (Hbel.out.trans (hb5.mono hBr))
      have Hs := Lib.hid (ssame_any w5 vb ve (splitL text) (splitL text) (Hyb5.out.strs) hown5.strs)
      have HJ1 := Lib.hid (fun n => tjoin_any (w5.drewN n) v ps (StrsB.strs (Hv.out.below (below_drewN Hb5.out n))) (by omega))
      clear hb5 hown5
      go_wp2_with fail
      refine Hs.out.mono ?_
      rintro e w6 ⟨rfl, n, rfl⟩
      go_wp2_with fail
      refine (HJ1.out n).mono ?_
      rintro e w7 ⟨rfl, hb7⟩
      have hs57 : w5.heap.size ≤ w7.heap.size := hb7.size
      have Hb7 := Lib.hid ((below_drewN Hb5.out n).trans (hb7.mono Hb5.out.size))
      have HJ2 := Lib.hid (rjoin_any w7 v ps (StrsB.strs (Hv.out.below Hb7.out)) (by omega))
      clear hb7
      go_wp2_with fail
      refine HJ2.out.mono ?_
      rintro e w8 ⟨rfl, hb8⟩
      have Hb8 := Lib.hid (Hb7.out.trans (hb8.mono Hb7.out.size))
      clear hb8
      go_wp2
      go_ret
      exact ⟨by simp, Hb8.out⟩

end Go.Proofs.YtmckjdopplchbaaDoor
