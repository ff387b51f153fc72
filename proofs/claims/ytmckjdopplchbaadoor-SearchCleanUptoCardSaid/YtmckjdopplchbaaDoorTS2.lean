/- Lemmas that the claim is proved from: what calls of functions of the program come to (contracts), and plain laws. Each lemma bears its own conditions. -/
import Derived.Test.YtmckjdopplchbaaDoorTS1
import Derived.Test.YtmckjdopplchbaaDoorTL3
namespace Go.Proofs.YtmckjdopplchbaaDoor
set_option linter.unusedVariables false
set_option linter.unusedSimpArgs false
open Go.RowKit

/-- strings.Join at the colon, of a slice that the call has made -/
theorem join_any (w : World) (B : Nat) (v : Value) (qs : List (List UInt8)) (hv : OwnS B w v qs) (hl : (joinL qs).length ≤ 140737488355328) (hn : qs.length ≤ 140737488355328) :
    Calls Tryd.prog 34 #[v, .string ⟨#[58]⟩] w fun e w' => e = .returned (.string ⟨(joinL qs).toArray⟩) ∧ Below w.heap.size w w' := by
  obtain ⟨a, b, off, cap, rfl, _, ha, hcap, hc⟩ := hv.strs
  by_cases h0 : qs.length = 0
  · obtain rfl : qs = [] := List.eq_nil_of_length_eq_zero h0
    refine (Tryd.strings_Join_none a cap ⟨#[58]⟩ w).mono ?_
    rintro e w' ⟨rfl, rfl⟩
    exact ⟨rfl, Below.refl _ _⟩
  · obtain rfl := ha (by omega)
    have hb := World.block_lt_of_cell? _ _ (hc 0 (by omega))
    have hmap : ((qs.map fun x => (⟨x.toArray⟩ : ByteArray)).map (·.data.toList)) = qs := by
      rw [List.map_map]; simp [Function.comp_def]
    have hJ := Tryd.strings_Join b off cap (qs.map fun x => (⟨x.toArray⟩ : ByteArray)) ⟨#[58]⟩ w (by
      intro j x hx
      have hj : j < qs.length := by
        have := (List.getElem?_eq_some_iff.1 hx).1
        simpa using this
      rw [hc j hj, snth_eq qs j hj]
      simp [hj] at hx
      rw [← hx]) hb (by simpa using hn) (by simpa using hcap) (by
      rw [hmap]
      show (Lib.join qs [58]).length ≤ _
      rw [joinL_eq]; exact hl)
    rw [hmap, show (⟨#[58]⟩ : ByteArray).data.toList = [58] from rfl, joinL_eq, List.length_map] at hJ
    exact hJ

set_option maxHeartbeats 4000000 in
set_option maxRecDepth 100000 in
theorem tjoin_any (w : World) (v : Value) (ps : List (List UInt8)) (hv : Strs w v ps) (hl : bytesN ps + ps.length ≤ 16777216) :
    Calls Tryd.prog 18 #[v] w fun e w' => e = .returned (.string ⟨(joinL (nz ps)).toArray⟩) ∧ Below w.heap.size w w' := by
  have hv' := Lib.hid hv.toB
  obtain ⟨a, b, off, cap, rfl, hm, ha, _, hblt, hc⟩ := hv.toB
  have Hc := Lib.hid hc
  clear hc
  have hjl : (joinL (nz ps)).length ≤ 16777216 := by
    have h1 := joinL_len (nz ps)
    have h2 := bytesN_nz ps
    have h3 : (nz ps).length ≤ ps.length := List.length_filter_le _ _
    omega
  go_enter Tryd.func18, Tryd.ntmps18
  go_wp2
  go_loopw [3, 8] (fun l i wr => ∃ (k : Nat), i = .int .i64 k ∧ k ≤ ps.length ∧ OwnS w.heap.size wr l (nz (ps.take k)) ∧ Below w.heap.size w wr) (fun _ i _ => ps.length - (intOf i).toNat)
  case atStart => exact ⟨0, rfl, Nat.zero_le _, OwnS.nil _ _, Below.refl _ _⟩
  case round =>
    obtain ⟨k, rfl, hk, hown, hbel⟩ := hrel
    have Hown := Lib.hid hown
    have Hbel := Lib.hid hbel
    have hBr := hbel.size
    by_cases hlt : k < ps.length
    · obtain rfl := ha (by omega)
      have gc : wr.cell? ⟨b, off + k, none⟩ = some (.string ⟨(snth ps k).toArray⟩) := by
        rw [hbel.cell (p := ⟨b, off + k, none⟩) (hblt (by omega))]; exact Hc.out k hlt
      have Ht := Lib.hid (snth_take ps k hlt)
      have Hfl : Hid ((nz (ps.take k)).length ≤ 16777216) := Lib.hid (Nat.le_trans (List.length_filter_le _ _) (by rw [List.length_take]; omega))
      clear hown hbel
      cases hq : (snth ps k).isEmpty with
      | true =>
        have Hq := Lib.hid hq
        go_wp2_with fail
        go_roundw
        case rel =>
          refine ⟨k + 1, by go_num, by omega, ?_, Hbel.out⟩
          rw [Ht.out, List.isEmpty_iff.1 Hq.out]
          simpa [nz] using Hown.out
        case measure => simp [intOf]; omega
      | false =>
        have Hq := Lib.hid hq
        go_wp2_with (at_builtin; refine wpList_appendStr _ rfl (.tmp 14) (.tmp 16) rfl w.heap.size _ _ rfl (Hown.out.alloc _) wr.heap.size (snth ps k) rfl ?c1 (Nat.le_trans Hfl.out (by decide)) ?c2 ?_)
        case c2 => first | omega | (simp; omega)
        intro v' w2 hown' hbel'
        have Hown' := Lib.hid hown'
        have Hbel' := Lib.hid ((Hbel.out.alloc hBr _).trans hbel')
        clear hown' hbel'
        go_wp2
        go_roundw
        case rel =>
          refine ⟨k + 1, by go_num, by omega, ?_, Hbel'.out⟩
          have e : nz (ps.take (k + 1)) = nz (ps.take k) ++ [snth ps k] := by
            rw [Ht.out, nz, List.filter_append]
            have : snth ps k ≠ [] := fun e => by have := Hq.out; rw [e] at this; simp at this
            simp [this, nz]
          rw [e]
          exact Hown'.out
        case measure => simp [intOf]; omega
    · have hown2 := hown
      rw [List.take_of_length_le (by omega)] at hown2
      have HJ := Lib.hid (join_any wr w.heap.size _ (nz ps) hown2 (by omega) (by have : (nz ps).length ≤ ps.length := List.length_filter_le _ _; omega))
      clear hown hbel hown2
      go_wp2_with fail
      refine HJ.out.mono ?_
      rintro e w2 ⟨rfl, hb2⟩
      have Hb2 := Lib.hid (Hbel.out.trans (hb2.mono hBr))
      clear hb2
      go_wp2
      go_ret
      exact ⟨rfl, Hb2.out⟩

set_option maxHeartbeats 4000000 in
set_option maxRecDepth 100000 in
theorem rjoin_any (w : World) (v : Value) (ps : List (List UInt8)) (hv : Strs w v ps) (hl : bytesN ps + ps.length ≤ 16777216) :
    Calls Tryd.prog 19 #[v] w fun e w' => e = .returned (.string ⟨(joinL (nz ps)).toArray⟩) ∧ Below w.heap.size w w' := by
  obtain ⟨a, b, off, cap, rfl, hm, ha, _, hc⟩ := hv
  have Hc := Lib.hid hc
  clear hc
  go_enter Tryd.func19, Tryd.ntmps19
  go_wp2
  go_loop [3, 4] (fun s i => ∃ (k : Nat), i = .int .i64 k ∧ k ≤ ps.length ∧ s = .string ⟨(rj [] (ps.take k)).toArray⟩) (fun _ i => ps.length - (intOf i).toNat)
  case atStart => exact ⟨0, rfl, Nat.zero_le _, rfl⟩
  case round =>
    obtain ⟨k, rfl, hk, rfl⟩ := hrel
    by_cases hlt : k < ps.length
    · obtain rfl := ha (by omega)
      have gc := Hc.out k hlt
      have hr1 := rj_len ps k
      have hr2 := bytesN_mem (snth_mem ps k hlt)
      have hs := rj_snoc (snth ps k) (ps.take k) []
      rw [← snth_take ps k hlt] at hs
      have Hs := Lib.hid hs
      clear hs
      generalize rj [] (ps.take k) = out at *
      generalize snth ps k = p at *
      have s1 := size_mk out
      have s2 := size_mk p
      have s3 := size_mk (out ++ [58])
      have s4 : (out ++ [58]).length = out.length + 1 := by simp
      have a1 : (⟨out.toArray⟩ : ByteArray) ++ ⟨p.toArray⟩ = ⟨(out ++ p).toArray⟩ := mk_append _ _
      have a2 : (⟨out.toArray⟩ : ByteArray) ++ ⟨#[58]⟩ = ⟨(out ++ [58]).toArray⟩ := mk_append out [58]
      have a3 : (⟨(out ++ [58]).toArray⟩ : ByteArray) ++ ⟨p.toArray⟩ = ⟨(out ++ [58] ++ p).toArray⟩ := mk_append _ _
      cases hp : p.isEmpty with
      | true =>
        have Hp := Lib.hid (List.isEmpty_iff.1 hp)
        go_wp2
        go_round
        case rel => exact ⟨k + 1, by go_num, by omega, by rw [Hs.out, if_neg (by simp [Hp.out])]⟩
        case measure => simp [intOf]; omega
      | false =>
        have Hp : Hid (p ≠ []) := Lib.hid (fun e => by rw [e] at hp; simp at hp)
        cases ho : out.isEmpty with
        | true =>
          have Ho := Lib.hid (List.isEmpty_iff.1 ho)
          go_wp2
          go_round
          case rel => exact ⟨k + 1, by go_num, by omega, by rw [Hs.out, if_neg (by simp [Ho.out])]⟩
          case measure => simp [intOf]; omega
        | false =>
          have Ho : Hid (out ≠ []) := Lib.hid (fun e => by rw [e] at ho; simp at ho)
          go_wp2
          go_round
          case rel => exact ⟨k + 1, by go_num, by omega, by rw [Hs.out, if_pos ⟨Hp.out, Ho.out⟩]; simp⟩
          case measure => simp [intOf]; omega
    · have e : rj [] (ps.take k) = joinL (nz ps) := by rw [List.take_of_length_le (by omega), rj_nil]
      have He := Lib.hid e
      clear e
      go_wp2
      go_ret
      exact ⟨by rw [← He.out]; rfl, Below.refl _ _⟩

end Go.Proofs.YtmckjdopplchbaaDoor
