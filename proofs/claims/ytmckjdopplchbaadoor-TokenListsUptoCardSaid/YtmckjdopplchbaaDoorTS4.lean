/- Lemmas that the claim is proved from: what calls of functions of the program come to (contracts), and plain laws. Each lemma bears its own conditions. -/
import Derived.Test.YtmckjdopplchbaaDoorTS2
namespace Go.Proofs.YtmckjdopplchbaaDoor
set_option linter.unusedVariables false
set_option linter.unusedSimpArgs false
open Go.RowKit

/-- no piece bears a colon -/
def noColon (ps : List (List UInt8)) : Prop := ∀ q ∈ ps, 58 ∉ q
theorem noColon_take (ps : List (List UInt8)) (k : Nat) (h : k < ps.length) (hn : noColon (ps.take k)) (hc : 58 ∉ snth ps k) : noColon (ps.take (k + 1)) := by
  intro q hq
  rw [snth_take ps k h] at hq
  rcases List.mem_append.1 hq with hq | hq
  · exact hn q hq
  · rw [List.mem_singleton.1 hq]; exact hc
theorem split_join_nz (ps : List (List UInt8)) (h : noColon ps) : splitL (joinL (nz ps)) = nz ps :=
  split_join (nz ps) fun q hq => by
    rw [nz, List.mem_filter] at hq
    exact ⟨by simpa using hq.2, h q hq.1⟩
theorem not_take58 (text : List UInt8) (k : Nat) (h : k < text.length) (hn : 58 ∉ text.take k) (hc : text[k] ≠ 58) : 58 ∉ text.take (k + 1) := by
  rw [List.take_succ_eq_append_getElem h]
  simp only [List.mem_append, List.mem_singleton, not_or]
  exact ⟨hn, fun e => hc e.symm⟩

theorem pcs_bytes : ∀ (l cur : List UInt8), bytesN (pcs cur l) ≤ cur.length + l.length
  | [], cur => by rw [pcs]; split <;> simp [bytesN]
  | c :: l, cur => by
    rw [pcs]
    have h1 := pcs_bytes l []
    have h2 := pcs_bytes l (cur ++ [c])
    simp at h1 h2
    split
    · split
      · simp; omega
      · simp only [bytesN, List.map_cons, List.sum_cons, List.length_cons] at h1 ⊢; omega
    · simp; omega
theorem split_bytes (l : List UInt8) (h : l.length ≤ 1048576) : bytesN (splitL l) + (splitL l).length ≤ 4194304 := by
  have h1 := pcs_bytes l []
  have h2 := splitL_len l
  simp at h1
  rw [splitL] at h2 ⊢
  omega

set_option maxHeartbeats 8000000 in
set_option maxRecDepth 100000 in
theorem law_lists (m : Int) (w : World) (v : Value) (text : List UInt8) (ps : List (List UInt8)) (hm : w.cell? ⟨0, 0, none⟩ = some (.int .i64 m)) (hv : Strs w v ps) (hb : text.length + bytesN ps + ps.length ≤ 1048576) :
    Calls Tryd.prog 8 #[v, .string ⟨text.toArray⟩] w fun e w' => e = .returned (.bool true) ∧ Below w.heap.size w w' := by
  have h0 : 0 < w.heap.size := World.block_lt_of_cell? w _ hm
  have hszt := size_mk text
  have Hm := Lib.hid hm
  have Hv := Lib.hid hv.toB
  have H1 := Lib.hid (tawake_any m w hm)
  obtain ⟨aa, b, off, cap, hve, hmax, ha, _, hblt, hc⟩ := hv.toB
  have Hc := Lib.hid hc
  have Hve := Lib.hid hve
  subst hve
  clear hm hv hc
  go_enter Tryd.func8, Tryd.ntmps8
  go_wp2_with fail
  refine H1.out.mono ?_
  rintro e w1 ⟨rfl, hb1⟩
  have Hm1 : Hid (w1.cell? ⟨0, 0, none⟩ = some (.int .i64 m)) := Lib.hid (by rw [hb1.cell (p := ⟨0, 0, none⟩) h0]; exact Hm.out)
  have Hb1 := Lib.hid hb1
  clear hb1
  go_wp2_with fail
  go_loopw [6, 7, 8] (fun l i _ wr => ∃ (k : Nat), i = .int .i64 k ∧ k ≤ ps.length ∧ OwnS w1.heap.size wr l (nz (ps.take k)) ∧ Below w1.heap.size w1 wr ∧ noColon (ps.take k)) (fun _ i _ _ => ps.length - (intOf i).toNat)
  case atStart => exact ⟨0, rfl, Nat.zero_le _, OwnS.nil _ _, Below.refl _ _, fun q hq => by simp at hq⟩
  case round =>
    obtain ⟨k, rfl, hk, hown, hbel, hnc⟩ := hrel
    have Hown := Lib.hid hown
    have Hbel := Lib.hid hbel
    have Hbw := Lib.hid (Hb1.out.trans (hbel.mono Hb1.out.size))
    have Hnc := Lib.hid hnc
    have hBr := hbel.size
    clear hnc
    by_cases hlt : k < ps.length
    · obtain rfl := ha (by omega)
      have gc : wr.cell? ⟨b, off + k, none⟩ = some (.string ⟨(snth ps k).toArray⟩) := by
        rw [Hbw.out.cell (p := ⟨b, off + k, none⟩) (hblt (by omega))]; exact Hc.out k hlt
      have Ht := Lib.hid (snth_take ps k hlt)
      have Hfl : Hid ((nz (ps.take k)).length ≤ 1048576) := Lib.hid (Nat.le_trans (List.length_filter_le _ _) (by rw [List.length_take]; omega))
      have hpl := bytesN_mem (snth_mem ps k hlt)
      have Hnt := Lib.hid (noColon_take ps k hlt)
      clear hown hbel
      generalize hp : snth ps k = p at *
      clear hp
      have hsp := size_mk p
      go_wp2_with fail
      go_loop [8] (fun j => ∃ (q : Nat), j = .int .i64 q ∧ q ≤ p.length ∧ 58 ∉ p.take q) (fun j => p.length - (intOf j).toNat)
      case atStart => exact ⟨0, rfl, Nat.zero_le _, by simp⟩
      case round =>
        obtain ⟨q, rfl, hq, hnq⟩ := hrel
        have Hnq := Lib.hid hnq
        clear hnq
        by_cases hqlt : q < p.length
        · obtain ⟨c, hcx⟩ : ∃ c, p[q] = c := ⟨_, rfl⟩
          have hx : (⟨p.toArray⟩ : ByteArray)[q]'(by omega) = c := by rw [getElem_mk p q (by omega) hqlt]; exact hcx
          have Hcx := Lib.hid hcx
          clear hcx
          by_cases hc : c = 58
          · obtain rfl := hc
            have hc' : (((58 : UInt8).toNat : Int) == 58) = true := by decide
            go_wp2
            go_ret
            exact ⟨rfl, Hbw.out⟩
          · have hc' : ((c.toNat : Int) == 58) = false := by
              have : c.toNat ≠ 58 := fun e => hc (UInt8.toNat_inj.1 e)
              simp; omega
            go_wp2
            go_round
            case rel => exact ⟨q + 1, by go_num, by omega, not_take58 p q hqlt Hnq.out (by rw [Hcx.out]; exact hc)⟩
            case measure => simp [intOf]; omega
        · have Hno : Hid (58 ∉ p) := Lib.hid (by have := Hnq.out; rw [List.take_of_length_le (by omega)] at this; exact this)
          cases hq : p.isEmpty with
          | true =>
            have Hq := Lib.hid (List.isEmpty_iff.1 hq)
            go_wp2
            go_roundw
            case rel => exact ⟨k + 1, by go_num, by omega, by rw [Ht.out, Hq.out]; simpa [nz] using Hown.out, Hbel.out, Hnt.out Hnc.out Hno.out⟩
            case measure => simp [intOf]; omega
          | false =>
            have Hq : Hid (p ≠ []) := Lib.hid (fun e => by rw [e] at hq; simp at hq)
            go_wp2_with (at_builtin; refine wpList_appendStr _ rfl (.tmp 39) (.tmp 44) rfl w1.heap.size _ _ rfl (Hown.out.alloc _) wr.heap.size p rfl ?c1 (Nat.le_trans Hfl.out (by decide)) ?c2 ?_)
            case c2 => first | omega | (simp; omega)
            intro v' w2 hown' hbel'
            have Hown' := Lib.hid hown'
            have Hbel' := Lib.hid ((Hbel.out.alloc hBr _).trans hbel')
            clear hown' hbel'
            go_wp2
            go_roundw
            case rel => exact ⟨k + 1, by go_num, by omega, by
              have e : nz (ps.take (k + 1)) = nz (ps.take k) ++ [p] := by rw [Ht.out, nz, List.filter_append]; simp [Hq.out, nz]
              rw [e]; exact Hown'.out, Hbel'.out, Hnt.out Hnc.out Hno.out⟩
            case measure => simp [intOf]; omega
    · have hown2 := hown
      rw [List.take_of_length_le (by omega)] at hown2
      have hnc : noColon ps := by have := Hnc.out; rw [List.take_of_length_le (by omega)] at this; exact this
      have Hl := Lib.hid hown2.strs.toB
      have Hpv := Lib.hid (fun (w' : World) (h : Below wr.heap.size wr w') => StrsB.strs (Hv.out.below (Hbw.out.trans (h.mono Hbw.out.size))))
      have Hmr : Hid (∀ w' : World, Below wr.heap.size wr w' → w'.cell? ⟨0, 0, none⟩ = some (.int .i64 m)) := Lib.hid (fun w' h => by
        rw [(Hbw.out.trans (h.mono Hbw.out.size)).cell (p := ⟨0, 0, none⟩) h0]; exact Hm.out)
      have R1 := Lib.hid (split_any m wr text (Hmr.out wr (Below.refl _ _)) (by omega))
      have htl := splitL_len text
      have htb : bytesN (splitL text) + (splitL text).length ≤ 4194304 := split_bytes text (by omega)
      have hjl := join_split_len text
      have hpl : (joinL (nz ps)).length ≤ 1048576 := by
        have h1 := joinL_len (nz ps)
        have h2 := bytesN_nz ps
        have h3 : (nz ps).length ≤ ps.length := List.length_filter_le _ _
        omega
      have e1 : splitL (joinL (nz ps)) = nz ps := split_join_nz ps hnc
      have e2 : splitL (joinL (splitL text)) = splitL text := split_join _ (split_pieces text)
      have e3 := nz_split text
      have E1 := Lib.hid e1
      have E2 := Lib.hid e2
      have E3 := Lib.hid e3
      clear hown hbel hown2 hnc e1 e2 e3
      go_wp2_with fail
      refine R1.out.mono ?_
      rintro e w2 ⟨vs, rfl, hown2, hb2⟩
      have B2 := Lib.hid hb2
      have R2 := Lib.hid (tjoin_any w2 vs (splitL text) hown2.strs (by omega))
      clear hb2 hown2
      rw [E3.out] at R2
      have hjs := size_mk (joinL (splitL text))
      generalize hs : joinL (splitL text) = s at *
      go_wp2_with fail
      refine R2.out.mono ?_
      rintro e w3 ⟨rfl, hb3⟩
      have B3 := Lib.hid (B2.out.trans (hb3.mono B2.out.size))
      have R3 := Lib.hid (tjoin_any w3 _ ps (Hpv.out w3 B3.out) (by omega))
      clear hb3
      go_wp2_with fail
      refine R3.out.mono ?_
      rintro e w4 ⟨rfl, hb4⟩
      have B4 := Lib.hid (B3.out.trans (hb4.mono B3.out.size))
      have R4 := Lib.hid (split_any m w4 (joinL (nz ps)) (Hmr.out w4 B4.out) (by omega))
      clear hb4
      go_wp2_with fail
      refine R4.out.mono ?_
      rintro e w5 ⟨vd, rfl, hown5, hb5⟩
      have B5 := Lib.hid (B4.out.trans (hb5.mono B4.out.size))
      rw [E1.out] at hown5
      have R5 := Lib.hid (ssame_any w5 vd _ (nz ps) (nz ps) hown5.strs (StrsB.strs (Hl.out.below B5.out)))
      clear hb5 hown5
      go_wp2_with fail
      refine R5.out.mono ?_
      rintro e w6 ⟨rfl, n, rfl⟩
      have B6 := Lib.hid (below_drewN B5.out n)
      have R6 := Lib.hid (split_any m (w5.drewN n) s (Hmr.out _ B6.out) (by omega))
      go_wp2_with fail
      refine R6.out.mono ?_
      rintro e w7 ⟨vf, rfl, hown7, hb7⟩
      have B7 := Lib.hid (B6.out.trans (hb7.mono B6.out.size))
      rw [E2.out] at hown7
      have R7 := Lib.hid (tjoin_any w7 vf (splitL text) hown7.strs (by omega))
      clear hb7 hown7
      rw [E3.out, hs] at R7
      go_wp2_with fail
      refine R7.out.mono ?_
      rintro e w8 ⟨rfl, hb8⟩
      have B8 := Lib.hid (B7.out.trans (hb8.mono B7.out.size))
      clear hb8
      go_wp2
      go_ret
      exact ⟨by simp, Hbw.out.trans (B8.out.mono Hbw.out.size)⟩

end Go.Proofs.YtmckjdopplchbaaDoor
