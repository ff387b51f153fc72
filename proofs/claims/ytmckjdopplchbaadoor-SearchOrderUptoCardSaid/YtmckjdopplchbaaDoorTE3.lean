/- Lemmas that the claim is proved from: what calls of functions of the program come to (contracts), and plain laws. Each lemma bears its own conditions. -/
import Derived.Test.YtmckjdopplchbaaDoorTE2
import Derived.Test.YtmckjdopplchbaaDoorSMem
import Derived.Test.YtmckjdopplchbaaDoorTPlain2
namespace Go.Proofs.YtmckjdopplchbaaDoor
set_option linter.unusedVariables false
set_option linter.unusedSimpArgs false
open Go.RowKit

set_option maxHeartbeats 2000000 in
set_option maxRecDepth 100000 in
theorem split_any (m : Int) (w : World) (text : List UInt8) (hm : w.cell? ⟨0, 0, none⟩ = some (.int .i64 m)) (hl : text.length < 4294967281) :
    Calls Tryd.prog 15 #[.string ⟨text.toArray⟩] w fun e w' => ∃ v, e = .returned v ∧ OwnS w.heap.size w' v (splitL text) ∧ Below w.heap.size w w' := by
  have hls : ByteArray.size ⟨text.toArray⟩ < 4294967281 := by rw [size_mk]; exact hl
  have HS := Tryd.strings_Split ⟨text.toArray⟩ ⟨#[58]⟩ m w hls hm (by decide)
  obtain ⟨ps, hps1, hps2, hps3⟩ := splitB_all text
  rw [hps1, ← hps2] at HS
  have hpn : ps.length ≤ text.length + 2 := by
    rw [hps2]
    have := Lib.count_le text [58]
    show Lib.count text [58] + 1 ≤ _
    omega
  have HS' := Lib.hid HS
  have Hps := Lib.hid hps3
  clear HS hps1 hps2 hps3
  go_enter Tryd.func15, Tryd.ntmps15
  go_wp2_with (go_at_call 33; refine HS'.out.mono ?_; rintro e w' ⟨rfl, rfl⟩)
  have Hold : Hid (Below w.heap.size w (w.alloc (.cells (ps.map (fun x => Value.string ⟨x.toArray⟩)).toArray 9))) := Lib.hid ((Below.refl _ w).alloc (Nat.le_refl _) _)
  have Hcells : Hid (∀ i, i < ps.length → (w.alloc (.cells (ps.map (fun x => Value.string ⟨x.toArray⟩)).toArray 9)).cell? ⟨w.heap.size, i, none⟩ = some (.string ⟨(snth ps i).toArray⟩)) := Lib.hid (by
    intro i hi
    rw [Lib.cell_of_heap (heap_alloc_new w _)]
    simp [snth, List.getD, hi])
  generalize hw1 : w.alloc (.cells (ps.map (fun x => Value.string ⟨x.toArray⟩)).toArray 9) = w1 at *
  have Hs1 : Hid (w1.heap.size = w.heap.size + 1) := Lib.hid (by rw [← hw1]; simp)
  clear hw1
  go_loopw [3, 9] (fun v i wr => ∃ (k : Nat), i = .int .i64 k ∧ k ≤ ps.length ∧ OwnS w1.heap.size wr v ((ps.take k).filter (fun x => decide (x ≠ []))) ∧ Below w1.heap.size w1 wr) (fun _ i _ => ps.length - (intOf i).toNat)
  case atStart => exact ⟨0, rfl, Nat.zero_le _, OwnS.nil _ _, Below.refl _ _⟩
  case round =>
    obtain ⟨k, rfl, hk, hown, hbel⟩ := hrel
    have Hown := Lib.hid hown
    have Hbel := Lib.hid hbel
    have hBr := hbel.size
    clear hown
    by_cases hlt : k < ps.length
    · have gc : wr.cell? ⟨w.heap.size, k, none⟩ = some (.string ⟨(snth ps k).toArray⟩) := by
        rw [hbel.cell (p := ⟨w.heap.size, k, none⟩) (by have := Hs1.out; simp; omega)]; exact Hcells.out k hlt
      have Ht := Lib.hid (snth_take ps k hlt)
      have Hfl : Hid (((ps.take k).filter (fun x => decide (x ≠ []))).length ≤ 4294967290) := Lib.hid (Nat.le_trans (List.length_filter_le _ _) (by rw [List.length_take]; omega))
      clear hbel
      cases hq : (snth ps k).isEmpty with
      | true =>
        have Hq := Lib.hid hq
        go_wp2_with fail
        go_roundw
        case rel =>
          refine ⟨k + 1, by go_num, by omega, ?_, Hbel.out⟩
          rw [Ht.out, List.isEmpty_iff.1 Hq.out]
          simpa using Hown.out
        case measure => simp [intOf]; omega
      | false =>
        have Hq := Lib.hid hq
        go_wp2_with (at_builtin; refine wpList_appendStr _ rfl (.tmp 15) (.tmp 17) rfl w1.heap.size _ _ rfl (Hown.out.alloc _) wr.heap.size (snth ps k) rfl ?c1 (Nat.le_trans Hfl.out (by decide)) ?c2 ?_)
        case c1 => simp
        case c2 => simp; omega
        intro v' w2 hown' hbel'
        have Hown' := Lib.hid hown'
        have Hbel' := Lib.hid hbel'
        clear hown' hbel'
        go_wp2
        go_roundw
        case rel =>
          refine ⟨k + 1, by go_num, by omega, ?_, (Hbel.out.alloc hBr _).trans Hbel'.out⟩
          have e : (ps.take (k + 1)).filter (fun x => decide (x ≠ [])) = (ps.take k).filter (fun x => decide (x ≠ [])) ++ [snth ps k] := by
            rw [Ht.out, List.filter_append]
            have : snth ps k ≠ [] := fun e => by have := Hq.out; rw [e] at this; simp at this
            simp [this]
          rw [e]
          simpa using Hown'.out
        case measure => simp [intOf]; omega
    · go_wp2
      go_ret
      refine ⟨_, rfl, ?_, Hold.out.trans (Hbel.out.mono (by have := Hs1.out; omega))⟩
      have := Hown.out
      rw [List.take_of_length_le (by omega), Hps.out] at this
      exact this.mono (by have := Hs1.out; omega)

theorem awake_exp1 (m : Int) (w : World) (hm : w.cell? ⟨0, 0, none⟩ = some (.int .i64 m)) :
    Calls Tryd.prog 13 #[.string ⟨#[36, 79, 82, 73, 71, 73, 78, 47, 46, 46, 47, 36, 76, 73, 66]⟩, .string ⟨#[47, 97, 47, 98]⟩] w fun e w' => e = .returned (.tuple #[.string ⟨#[47, 97, 47, 98, 47, 46, 46, 47, 108, 105, 98]⟩, .int .i64 0]) ∧ Below w.heap.size w w' := by
  have h := expand_any m w [36, 79, 82, 73, 71, 73, 78, 47, 46, 46, 47, 36, 76, 73, 66] [47, 97, 47, 98] hm (Or.inl (by decide))
  rw [show expandL [36, 79, 82, 73, 71, 73, 78, 47, 46, 46, 47, 36, 76, 73, 66] [47, 97, 47, 98] = ([47, 97, 47, 98, 47, 46, 46, 47, 108, 105, 98], 0) by decide +kernel] at h
  exact h
theorem awake_exp2 (m : Int) (w : World) (hm : w.cell? ⟨0, 0, none⟩ = some (.int .i64 m)) :
    Calls Tryd.prog 13 #[.string ⟨#[36, 108, 105, 98]⟩, .string ⟨#[47]⟩] w fun e w' => e = .returned (.tuple #[.string ⟨#[]⟩, .int .i64 110]) ∧ Below w.heap.size w w' := by
  have h := expand_any m w [36, 108, 105, 98] [47] hm (Or.inl (by decide))
  rw [show expandL [36, 108, 105, 98] [47] = ([], 110) by decide +kernel] at h
  exact h
theorem awake_split (m : Int) (w : World) (hm : w.cell? ⟨0, 0, none⟩ = some (.int .i64 m)) :
    Calls Tryd.prog 15 #[.string ⟨#[58, 97, 58, 58, 98]⟩] w fun e w' => ∃ b off cap, e = .returned (.slice (some ⟨b, off, none⟩) 2 cap) ∧ w'.cell? ⟨b, off, none⟩ = some (.string ⟨#[97]⟩) ∧ w'.cell? ⟨b, off + 1, none⟩ = some (.string ⟨#[98]⟩) ∧ Below w.heap.size w w' := by
  refine (split_any m w [58, 97, 58, 58, 98] hm (by decide)).mono ?_
  rintro e w' ⟨v, rfl, hown, hb⟩
  rw [show splitL [58, 97, 58, 58, 98] = [[97], [98]] by decide +kernel] at hown
  obtain ⟨a, b, off, cap, rfl, _, ha, _, hc⟩ := hown.strs
  obtain rfl := ha (by decide)
  exact ⟨b, off, cap, rfl, hc 0 (by decide), hc 1 (by decide), hb⟩

set_option maxHeartbeats 2000000 in
set_option maxRecDepth 100000 in
theorem tawake_any (m : Int) (w : World) (hm : w.cell? ⟨0, 0, none⟩ = some (.int .i64 m)) :
    Calls Tryd.prog 12 #[] w fun e w' => e = .returned (.bool true) ∧ Below w.heap.size w w' := by
  have h0 : 0 < w.heap.size := World.block_lt_of_cell? w _ hm
  have H1 := Lib.hid (awake_exp1 m w hm)
  have Hm := Lib.hid hm
  clear hm
  go_enter Tryd.func12, Tryd.ntmps12
  go_wp2_with fail
  refine H1.out.mono ?_
  rintro e w1 ⟨rfl, hb1⟩
  have hm1 : w1.cell? ⟨0, 0, none⟩ = some (.int .i64 m) := by rw [hb1.cell (p := ⟨0, 0, none⟩) h0]; exact Hm.out
  have Hm1 := Lib.hid hm1
  have Hb1 := Lib.hid hb1
  have H2 := Lib.hid (awake_exp2 m w1 hm1)
  clear hm1 hb1
  go_wp2_with fail
  refine H2.out.mono ?_
  rintro e w2 ⟨rfl, hb2⟩
  have hm2 : w2.cell? ⟨0, 0, none⟩ = some (.int .i64 m) := by rw [hb2.cell (p := ⟨0, 0, none⟩) (Nat.lt_of_lt_of_le h0 Hb1.out.size)]; exact Hm1.out
  have Hb2 := Lib.hid (Hb1.out.trans (hb2.mono Hb1.out.size))
  have H3 := Lib.hid (awake_split m w2 hm2)
  clear hm2 hb2
  go_wp2_with fail
  refine H3.out.mono ?_
  rintro e w3 ⟨b, off, cap, rfl, c0, c1, hb3⟩
  have Hb3 := Lib.hid (Hb2.out.trans (hb3.mono Hb2.out.size))
  clear hb3
  go_wp2
  go_ret
  exact ⟨rfl, Hb3.out⟩

end Go.Proofs.YtmckjdopplchbaaDoor
