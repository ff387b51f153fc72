/- Lemmas that the claim is proved from: what calls of functions of the program come to (contracts), and plain laws. Each lemma bears its own conditions. -/
import Derived.Test.YtjnahiomnaedeaaGW4
namespace Go.Proofs.Ytjnahiomnaedeaa
set_option linter.unusedVariables false
set_option linter.unusedSimpArgs false
open Go.RowKit

theorem toNat_lt {x : Int} {n : Nat} (h : 0 ≤ x ∧ x < n) : x.toNat < n := by omega

set_option maxHeartbeats 400000 in
theorem rbreadth_any (w : World) (ev u : Value) (g : List (List Int)) (roots : List Int) (he : IntRows w ev g) (hu : Ints w u roots) (hg : RightG g) (hr : nodesB g.length roots = true)
    (hl : roots.length ≤ 5000) (hfew : edgesN g ≤ 5000) :
    Calls Try.prog 20 #[ev, u] w fun e w' => ∃ r, e = .returned r ∧ Own w.heap.size w' r (breadthL g roots) ∧ Below w.heap.size w w' := by
  have Hu := Lib.hid hu.toB
  have Hr := Lib.hid hr
  obtain ⟨ea, eb, eoff, ecap, rfl, hem, hea, hebl, hec⟩ := he.toB
  obtain ⟨B, hB⟩ : ∃ B, B = w.heap.size := ⟨_, rfl⟩
  rw [← hB] at Hu hebl hec ⊢
  have hBle : B ≤ w.heap.size := by omega
  clear hB he hu
  have hgl := hg.size
  go_enter Try.func20, Try.ntmps20
  go_wp2_with (go_at_call 23; refine (once_any B _ _ _ [] roots (Own.nil B _) Hu.out hBle (by simp; omega)).mono ?_; rintro e w1 ⟨r, rfl, hown1, hbel1⟩)
  have Hown1 := Lib.hid hown1; clear hown1
  go_loopw [5, 6] (fun s i wr => ∃ (k : Nat) (zs : List Int), i = .int .i64 k ∧ Own B wr s zs ∧ Good g.length zs ∧ k ≤ zs.length ∧ bfsL g (g.length + 1 - k) zs k = breadthL g roots ∧ Below B w wr)
    (fun _ i _ => g.length + 1 - (intOf i).toNat)
  case atStart => exact ⟨0, _, rfl, Hown1.out, good_roots Hr.out, Nat.zero_le _, rfl, hbel1⟩
  case round =>
    obtain ⟨k, zs, rfl, ho, hgood, hk, hb, hbel⟩ := hrel
    have Ho := Lib.hid ho
    have Hb := Lib.hid hb; clear hb
    have hBr : B ≤ wr.heap.size := Nat.le_trans hBle hbel.size
    have hzl := hgood.len
    have Hgood := Lib.hid hgood
    obtain ⟨a, b, off, cap, rfl, hm, ha, hc⟩ := ho.ints
    clear ho hgood
    by_cases hlt : k < zs.length
    · obtain rfl := ha (by omega)
      have gc := hc k hlt
      have hn := Hgood.out.ok _ (nth_mem zs k hlt)
      obtain ⟨hn0, hn1⟩ := hn
      obtain rfl := hea (by omega)
      obtain ⟨rv, gr, hrow⟩ := hec _ (toNat_lt ⟨hn0, hn1⟩)
      have grr : wr.cell? ⟨eb, eoff + (nth zs k).toNat, none⟩ = some rv := by rw [hbel.cell (p := ⟨eb, eoff + (nth zs k).toNat, none⟩) (hebl (by omega))]; exact gr
      have Hrow : Hid (IntsB B wr rv (rowI g (nth zs k))) := hrow.below hbel
      have hrl : (rowI g (nth zs k)).length ≤ 5000 := by have := row_le_edges g _ (toNat_lt ⟨hn0, hn1⟩); unfold rowI; omega
      clear hc hec gr hrow
      go_wp2_with (go_at_call 23; refine (once_any B _ _ _ zs (rowI g (nth zs k)) Ho.out Hrow.out hBr (by omega)).mono ?_; rintro e w2 ⟨r2, rfl, hown2, hbel2⟩)
      go_roundw
      case rel =>
        refine ⟨k + 1, _, by go_num, hown2, Hgood.out.once (hg.rowI _), ?_, ?_, hbel.trans hbel2⟩
        · obtain ⟨t, ht⟩ := prefix_onceL (rowI g (nth zs k)) zs
          rw [ht, List.length_append]; omega
        · have := Hb.out
          rw [show g.length + 1 - k = (g.length + 1 - (k + 1)) + 1 from by omega, bfsL_step hlt] at this
          exact this
      case measure => simp [intOf]; omega
    · go_wp2
      go_ret
      refine ⟨_, rfl, ?_, hbel⟩
      rw [← Hb.out, bfsL_end hlt]; exact Ho.out

end Go.Proofs.Ytjnahiomnaedeaa
