/- Lemmas that the claim is proved from: what calls of functions of the program come to (contracts), and plain laws. Each lemma bears its own conditions. -/
import Derived.Test.YtmckjdopplchbaaDoorSR1
import Derived.Test.YtmckjdopplchbaaDoorTS1
namespace Go.Proofs.YtmckjdopplchbaaDoor
set_option linter.unusedVariables false
set_option linter.unusedSimpArgs false
open Go.RowKit

set_option maxHeartbeats 2000000 in
theorem ssame2_any (w : World) (v u : Value) (xs ys : List (List UInt8)) (hx : Strs w v xs) (hy : Strs w u ys) :
    Calls Tryd.prog 25 #[v, u] w fun e w' => e = .returned (.bool (decide (xs = ys))) ∧ ∃ m, w' = w.drewN m := by
  obtain ⟨a, b, off, cap, rfl, hm, ha, _, hc⟩ := hx
  obtain ⟨a2, b2, off2, cap2, rfl, hm2, ha2, _, hc2⟩ := hy
  by_cases hl : xs.length = ys.length
  case neg =>
    have hlz : ((xs.length : Int) != (ys.length : Int)) = true := by rw [bne_iff_ne]; omega
    go_enter Tryd.func25, Tryd.ntmps25
    go_wp2
    go_ret
    exact ⟨ret_bool' (by rw [eq_comm, decide_eq_false_iff_not]; intro e; rw [e] at hl; exact hl rfl), 0, rfl⟩
  have hlz : ((xs.length : Int) != (ys.length : Int)) = false := by rw [bne_eq_false_iff_eq]; omega
  have Hl := Lib.hid hl; clear hl
  go_enter Tryd.func25, Tryd.ntmps25
  go_wp2
  go_loopw [5] (fun i wr => ∃ k m : Nat, k ≤ xs.length ∧ i = .int .i64 k ∧ wr = w.drewN m ∧ ∀ j, j < k → snth xs j = snth ys j) (fun i _ => xs.length - (intOf i).toNat)
  case atStart => exact ⟨0, 0, Nat.zero_le _, rfl, rfl, fun _ h => absurd h (Nat.not_lt_zero _)⟩
  case round =>
    obtain ⟨k, m, hk, rfl, rfl, hn⟩ := hrel
    have Hn := Lib.hid hn; clear hn
    by_cases hlt : k < xs.length
    · have hlt2 : k < ys.length := by rw [← Hl.out]; exact hlt
      obtain rfl := ha (by omega)
      obtain rfl := ha2 (by omega)
      have gc := hc k hlt
      have gc2 := hc2 k hlt2
      by_cases he : snth xs k = snth ys k
      · have hez : (snth xs k != snth ys k) = false := by rw [bne_eq_false_iff_eq]; exact he
        have hez2 : (snth xs k == snth ys k) = true := by rw [beq_iff_eq]; exact he
        have He := Lib.hid he; clear he
        go_wp2_with fail
        go_quiet (fail)
        go_wp2
        go_roundw
        case rel => exact ⟨k + 1, _, by omega, by go_num, rfl, fun j hj => by
          by_cases e : j = k
          · rw [e]; exact He.out
          · exact Hn.out j (by omega)⟩
        case measure => simp [intOf]; omega
      · have hez : (snth xs k != snth ys k) = true := by rw [bne_iff_ne]; exact he
        have hez2 : (snth xs k == snth ys k) = false := by rw [beq_eq_false_iff_ne]; exact he
        go_wp2_with fail
        go_quiet (fail)
        go_wp2
        go_ret
        exact ⟨ret_bool' (by rw [eq_comm, decide_eq_false_iff_not]; intro e; rw [e] at he; exact he rfl), _, World.drewN_drewN _ _ _⟩
    · go_wp2
      go_ret
      exact ⟨ret_bool' (by rw [eq_comm, decide_eq_true_eq]; exact eq_of_snth Hl.out fun j hj => Hn.out j (by omega)), _, rfl⟩


/-- has a text a slash? -/
def slashB (s : List UInt8) : Bool := s.contains 47
theorem slash_take (s : List UInt8) (k : Nat) (h : k < s.length) (hn : 47 ∉ s.take k) (hc : s[k] ≠ 47) : 47 ∉ s.take (k + 1) := by
  rw [List.take_succ_eq_append_getElem h]
  simp only [List.mem_append, List.mem_singleton, not_or]
  exact ⟨hn, fun e => hc e.symm⟩

set_option maxHeartbeats 2000000 in
set_option maxRecDepth 100000 in
theorem slashed_any (w : World) (s : List UInt8) (hl : s.length ≤ 1000000) :
    Calls Tryd.prog 39 #[.string ⟨s.toArray⟩] w fun e w' => e = .returned (.bool (slashB s)) ∧ w' = w := by
  have hsz := size_mk s
  go_enter Tryd.func39, Tryd.ntmps39
  go_wp2
  go_loop [3] (fun i => ∃ k : Nat, k ≤ s.length ∧ i = .int .i64 k ∧ 47 ∉ s.take k) (fun i => s.length - (intOf i).toNat)
  case atStart => exact ⟨0, Nat.zero_le _, rfl, by simp⟩
  case round =>
    obtain ⟨k, hk, rfl, hn⟩ := hrel
    have Hn := Lib.hid hn
    clear hn
    by_cases hlt : k < s.length
    · obtain ⟨c, hcx⟩ : ∃ c, s[k] = c := ⟨_, rfl⟩
      have hx : (⟨s.toArray⟩ : ByteArray)[k]'(by omega) = c := by rw [getElem_mk s k (by omega) hlt]; exact hcx
      have Hcx := Lib.hid hcx
      clear hcx
      by_cases hc : c = 47
      · obtain rfl := hc
        have hc' : (((47 : UInt8).toNat : Int) == 47) = true := by decide
        have Hs : Hid (slashB s = true) := Lib.hid (by
          unfold slashB
          rw [List.contains_iff_mem, ← Hcx.out]
          exact List.getElem_mem hlt)
        go_wp2
        go_ret
        exact ⟨by rw [Hs.out]; rfl, rfl⟩
      · have hc' : ((c.toNat : Int) == 47) = false := by
          have : c.toNat ≠ 47 := fun e => hc (UInt8.toNat_inj.1 e)
          simp; omega
        go_wp2
        go_round
        case rel => exact ⟨k + 1, by omega, by go_num, slash_take s k hlt Hn.out (by rw [Hcx.out]; exact hc)⟩
        case measure => simp [intOf]; omega
    · have hno : 47 ∉ s := by
        have := Hn.out
        rw [List.take_of_length_le (by omega)] at this
        exact this
      have Hs : Hid (slashB s = false) := Lib.hid (by
        unfold slashB
        rw [Bool.eq_false_iff]
        intro h
        exact hno (List.contains_iff_mem.1 h))
      go_wp2
      go_ret
      exact ⟨by rw [Hs.out]; rfl, rfl⟩

end Go.Proofs.YtmckjdopplchbaaDoor
