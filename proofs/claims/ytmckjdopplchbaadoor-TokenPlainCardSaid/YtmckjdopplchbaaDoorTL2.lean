/- Lemmas that the claim is proved from: what calls of functions of the program come to (contracts), and plain laws. Each lemma bears its own conditions. -/
import Derived.Test.YtmckjdopplchbaaDoorTE3
namespace Go.Proofs.YtmckjdopplchbaaDoor
set_option linter.unusedVariables false
set_option linter.unusedSimpArgs false
open Go.RowKit

theorem not_take (text : List UInt8) (k : Nat) (h : k < text.length) (hn : 36 ∉ text.take k) (hc : text[k] ≠ 36) : 36 ∉ text.take (k + 1) := by
  rw [List.take_succ_eq_append_getElem h]
  simp only [List.mem_append, List.mem_singleton, not_or]
  exact ⟨hn, fun e => hc e.symm⟩

set_option maxHeartbeats 2000000 in
set_option maxRecDepth 100000 in
theorem law_plain (m : Int) (w : World) (text o : List UInt8) (hm : w.cell? ⟨0, 0, none⟩ = some (.int .i64 m)) (hz : ByteArray.size ⟨text.toArray⟩ ≤ maxLen) (_ : ByteArray.size ⟨o.toArray⟩ ≤ maxLen) :
    Calls Tryd.prog 4 #[.string ⟨text.toArray⟩, .string ⟨o.toArray⟩] w fun e w' => e = .returned (.bool true) ∧ Below w.heap.size w w' := by
  have h0 : 0 < w.heap.size := World.block_lt_of_cell? w _ hm
  have hsz := size_mk text
  have hmax : text.length ≤ 9223372036854775807 := by rw [hsz] at hz; unfold maxLen at hz; omega
  have Hm := Lib.hid hm
  have H1 := Lib.hid (tawake_any m w hm)
  clear hm hz
  go_enter Tryd.func4, Tryd.ntmps4
  go_wp2_with fail
  refine H1.out.mono ?_
  rintro e w1 ⟨rfl, hb1⟩
  have hm1 : w1.cell? ⟨0, 0, none⟩ = some (.int .i64 m) := by rw [hb1.cell (p := ⟨0, 0, none⟩) h0]; exact Hm.out
  have Hm1 := Lib.hid hm1
  have Hb1 := Lib.hid hb1
  clear hm1 hb1
  go_wp2_with fail
  go_loop [6] (fun i => ∃ k : Nat, k ≤ text.length ∧ i = .int .i64 k ∧ 36 ∉ text.take k) (fun i => text.length - (intOf i).toNat)
  case atStart => exact ⟨0, Nat.zero_le _, rfl, by simp⟩
  case round =>
    obtain ⟨k, hk, rfl, hn⟩ := hrel
    have Hn := Lib.hid hn
    clear hn
    by_cases hlt : k < text.length
    · obtain ⟨c, hcx⟩ : ∃ c, text[k] = c := ⟨_, rfl⟩
      have hx : (⟨text.toArray⟩ : ByteArray)[k]'(by omega) = c := by rw [getElem_mk text k (by omega) hlt]; exact hcx
      have Hcx := Lib.hid hcx
      clear hcx
      by_cases hc : c = 36
      · obtain rfl := hc
        have hc' : (((36 : UInt8).toNat : Int) == 36) = true := by decide
        go_wp2
        go_ret
        exact ⟨rfl, Hb1.out⟩
      · have hc' : ((c.toNat : Int) == 36) = false := by
          have : c.toNat ≠ 36 := fun e => hc (UInt8.toNat_inj.1 e)
          simp; omega
        go_wp2
        go_round
        case rel => exact ⟨k + 1, by omega, by go_num, not_take text k hlt Hn.out (by rw [Hcx.out]; exact hc)⟩
        case measure => simp [intOf]; omega
    · have hno : 36 ∉ text := by
        have := Hn.out
        rw [List.take_of_length_le (by omega)] at this
        exact this
      have H2 := expand_any m w1 text o Hm1.out (Or.inr hno)
      by_cases hl : text.length ≤ 200
      · have he : expandL text o = (text, 0) := by rw [expandL, if_pos hl, exp_plain _ _ hno]; exact if_pos hl
        rw [he] at H2
        have H2' := Lib.hid H2
        clear H2 he hno
        go_wp2_with fail
        refine H2'.out.mono ?_
        rintro e w2 ⟨rfl, hb2⟩
        have Hb2 := Lib.hid (Hb1.out.trans (hb2.mono Hb1.out.size))
        clear hb2
        go_wp2
        go_ret
        exact ⟨by simp, Hb2.out⟩
      · have he : expandL text o = ([], 2) := if_neg hl
        rw [he] at H2
        have H2' := Lib.hid H2
        clear H2 he hno
        go_wp2_with fail
        refine H2'.out.mono ?_
        rintro e w2 ⟨rfl, hb2⟩
        have Hb2 := Lib.hid (Hb1.out.trans (hb2.mono Hb1.out.size))
        clear hb2
        go_wp2
        go_ret
        exact ⟨rfl, Hb2.out⟩

end Go.Proofs.YtmckjdopplchbaaDoor
