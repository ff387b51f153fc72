/- Lemmas that the claim is proved from: what calls of functions of the program come to (contracts), and plain laws. Each lemma bears its own conditions. -/
import Derived.Test.YtgoecmfjidcieaaDoorFW1
import Derived.Test.YtgoecmfjidcieaaDoorShelf
namespace Go.Proofs.YtgoecmfjidcieaaDoor
set_option linter.unusedVariables false
set_option linter.unusedSimpArgs false
open Go.RowKit

theorem all_snoc (ps : List (List UInt8)) (k : Nat) (h : k < ps.length) (ha : (ps.take k).all rightB = true) (hc : rightB (snth ps k) = true) : (ps.take (k + 1)).all rightB = true := by
  rw [snth_take ps k h, List.all_append, ha]; simp [hc]
theorem all_no (ps : List (List UInt8)) (k : Nat) (h : k < ps.length) (hc : rightB (snth ps k) = false) : ¬ ps.all rightB = true := by
  intro ha
  rw [List.all_eq_true] at ha
  rw [ha _ (snth_mem ps k h)] at hc
  cases hc
theorem partsL_no {path : List UInt8} (h : ¬ (pcA 47 [] path).all rightB = true) : partsL path = none := by rw [partsL, if_neg (fun e => h e.2)]
theorem partsL_long {path : List UInt8} (h : ¬ path.length ≤ 200) : partsL path = none := by rw [partsL, if_neg (fun e => h e.1)]
theorem partsL_yes {path : List UInt8} (h : path.length ≤ 200) (ha : (pcA 47 [] path).all rightB = true) : partsL path = some ((pcA 47 [] path).filter keepB) := by rw [partsL, if_pos ⟨h, ha⟩]

set_option maxHeartbeats 4000000 in
set_option maxRecDepth 100000 in
theorem parts_any (m : Int) (w : World) (path : List UInt8) (hm : w.cell? ⟨0, 0, none⟩ = some (.int .i64 m)) :
    Calls Tryd.prog 28 #[.string ⟨path.toArray⟩] w fun e w' => ∃ v, e = .returned (.tuple #[v, .bool (partsL path).isSome]) ∧ OwnS w.heap.size w' v ((partsL path).getD []) ∧ Below w.heap.size w w' := by
  have hsz := size_mk' path
  by_cases hlen : path.length ≤ 200
  case neg =>
    go_enter Tryd.func28, Tryd.ntmps28
    go_wp2
    go_ret2
    exact ⟨_, by rw [partsL_long hlen]; rfl, by rw [partsL_long hlen]; exact OwnS.nil _ _, Below.refl _ _⟩
  have hls : ByteArray.size ⟨path.toArray⟩ < 4294967281 := by omega
  have HS := Tryd.strings_Split ⟨path.toArray⟩ ⟨#[47]⟩ m w hls hm (by decide)
  obtain ⟨hps1, hps2⟩ := splitB_pcA 47 path
  have hpl := pcA_len 47 path []
  have hpp := pcA_piece 47 path []
  rw [hps1, hps2] at HS
  have Hyes := Lib.hid (@partsL_yes path hlen)
  have Hno := Lib.hid (@partsL_no path)
  generalize pcA 47 [] path = ps at *
  have HS' := Lib.hid HS
  clear HS hps1 hps2 hm
  go_enter Tryd.func28, Tryd.ntmps28
  go_wp2_with (go_at_call 46; refine HS'.out.mono ?_; rintro e w' ⟨rfl, rfl⟩)
  have Hold : Hid (Below w.heap.size w (w.alloc (.cells (ps.map (fun x => Value.string ⟨x.toArray⟩)).toArray 9))) := Lib.hid ((Below.refl _ w).alloc (Nat.le_refl _) _)
  have Hcells : Hid (∀ i, i < ps.length → (w.alloc (.cells (ps.map (fun x => Value.string ⟨x.toArray⟩)).toArray 9)).cell? ⟨w.heap.size, i, none⟩ = some (.string ⟨(snth ps i).toArray⟩)) := Lib.hid (by
    intro i hi
    rw [Lib.cell_of_heap (heap_alloc_new w _)]
    simp [snth, List.getD, hi])
  generalize hw1 : w.alloc (.cells (ps.map (fun x => Value.string ⟨x.toArray⟩)).toArray 9) = w1 at *
  have Hs1 : Hid (w1.heap.size = w.heap.size + 1) := Lib.hid (by rw [← hw1]; simp)
  clear hw1
  go_loopw [4, 13] (fun v i wr => ∃ (k : Nat), i = .int .i64 k ∧ k ≤ ps.length ∧ OwnS w1.heap.size wr v ((ps.take k).filter keepB) ∧ Below w1.heap.size w1 wr ∧ (ps.take k).all rightB = true) (fun _ i _ => ps.length - (intOf i).toNat)
  case atStart => exact ⟨0, rfl, Nat.zero_le _, OwnS.nil _ _, Below.refl _ _, by simp⟩
  case round =>
    obtain ⟨k, rfl, hk, hown, hbel, hall⟩ := hrel
    have Hown := Lib.hid hown
    have Hbel := Lib.hid hbel
    have Hall := Lib.hid hall
    have hBr := hbel.size
    clear hown hall
    by_cases hlt : k < ps.length
    · have gc : wr.cell? ⟨w.heap.size, k, none⟩ = some (.string ⟨(snth ps k).toArray⟩) := by
        rw [hbel.cell (p := ⟨w.heap.size, k, none⟩) (by have := Hs1.out; simp; omega)]; exact Hcells.out k hlt
      have Ht := Lib.hid (snth_take ps k hlt)
      have Hfl : Hid (((ps.take k).filter keepB).length ≤ 4294967290) := Lib.hid (Nat.le_trans (List.length_filter_le _ _) (by rw [List.length_take]; omega))
      have hpk := hpp _ (snth_mem ps k hlt)
      have HR := Lib.hid (right_any wr (snth ps k) (by simp at hpk; omega))
      have Hsn := Lib.hid (all_snoc ps k hlt Hall.out)
      have Hbad := Lib.hid (all_no ps k hlt)
      clear hbel
      generalize snth ps k = p at *
      cases hr : rightB p with
      | false =>
        have Hn : Hid (partsL path = none) := Lib.hid (Hno.out (Hbad.out hr))
        rw [hr] at HR
        go_wp2_with fail
        refine HR.out.mono ?_
        rintro e w2 ⟨rfl, hb2⟩
        have Hb2 := Lib.hid (Hold.out.trans ((Hbel.out.trans (hb2.mono hBr)).mono (by have := Hs1.out; omega)))
        clear hb2
        go_wp2
        go_ret2
        exact ⟨_, by rw [Hn.out]; rfl, by rw [Hn.out]; exact OwnS.nil _ _, Hb2.out⟩
      | true =>
        have Hal := Lib.hid (Hsn.out hr)
        rw [hr] at HR
        clear hr Hsn Hbad
        go_wp2_with fail
        refine HR.out.mono ?_
        rintro e w2 ⟨rfl, hb2⟩
        have Hown2 := Lib.hid (Hown.out.below hb2)
        have Hbel2 := Lib.hid (Hbel.out.trans (hb2.mono hBr))
        have hBr2 := Hbel2.out.size
        clear hb2
        cases hq : p.isEmpty with
        | true =>
          have Hq := Lib.hid (List.isEmpty_iff.1 hq)
          go_wp2
          go_roundw
          case rel => exact ⟨k + 1, by go_num, by omega, by rw [Ht.out, Hq.out]; simpa [keepB] using Hown2.out, Hbel2.out, Hal.out⟩
          case measure => simp [intOf]; omega
        | false =>
          have Hq : Hid (p ≠ []) := Lib.hid (fun e => by rw [e] at hq; simp at hq)
          by_cases hd : p = [46]
          · subst hd
            go_wp2
            go_roundw
            case rel => exact ⟨k + 1, by go_num, by omega, by rw [Ht.out]; simpa [keepB] using Hown2.out, Hbel2.out, Hal.out⟩
            case measure => simp [intOf]; omega
          · have hd1 : (p != [46]) = true := by simp [hd]
            have hd2 : (p == [46]) = false := by simp [hd]
            have Hd := Lib.hid hd
            clear hd
            go_wp2_with (at_builtin; refine wpList_appendStr _ rfl (.tmp 26) (.tmp 28) rfl w1.heap.size _ _ rfl (Hown2.out.alloc _) w2.heap.size p rfl ?c1 (Nat.le_trans Hfl.out (by decide)) ?c2 ?_)
            case c1 => simp
            case c2 => simp; omega
            intro v' w3 hown' hbel'
            have Hown' := Lib.hid hown'
            have Hbel' := Lib.hid ((Hbel2.out.alloc hBr2 _).trans hbel')
            clear hown' hbel'
            go_wp2
            go_roundw
            case rel => exact ⟨k + 1, by go_num, by omega, by
              have e : (ps.take (k + 1)).filter keepB = (ps.take k).filter keepB ++ [p] := by rw [Ht.out, List.filter_append]; simp [keepB, Hq.out, Hd.out]
              rw [e]; exact Hown'.out, Hbel'.out, Hal.out⟩
            case measure => simp [intOf]; omega
    · have hall : ps.all rightB = true := by have := Hall.out; rw [List.take_of_length_le (by omega)] at this; exact this
      have HY := Lib.hid (Hyes.out hall)
      clear hall hbel
      go_wp2
      go_ret2
      refine ⟨_, by rw [HY.out]; rfl, ?_, Hold.out.trans (Hbel.out.mono (by have := Hs1.out; omega))⟩
      rw [HY.out]
      have := Hown.out
      rw [List.take_of_length_le (by omega)] at this
      exact this.mono (by have := Hs1.out; omega)

end Go.Proofs.YtgoecmfjidcieaaDoor
