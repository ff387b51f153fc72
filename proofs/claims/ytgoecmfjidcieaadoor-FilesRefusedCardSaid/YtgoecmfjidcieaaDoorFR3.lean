/- Lemmas that the claim is proved from: what calls of functions of the program come to (contracts), and plain laws. Each lemma bears its own conditions. -/
import Derived.Test.YtgoecmfjidcieaaDoorFR2
namespace Go.Proofs.YtgoecmfjidcieaaDoor
set_option linter.unusedVariables false
set_option linter.unusedSimpArgs false
open Go.RowKit

/-- an absolute path's parts -/
def absL (path : List UInt8) : Option (List (List UInt8)) := if path.head? = some 47 then partsL path else none
theorem cleanL_abs (path : List UInt8) : cleanL path = match absL path with | none => ([], 30) | some l => (wholeL (lexF [] l), 0) := by
  unfold cleanL absL
  by_cases h : path.head? = some 47
  · rw [if_pos h]; cases partsL path <;> simp [h]
  · rw [if_neg h]; cases partsL path <;> simp [h]

set_option maxHeartbeats 2000000 in
set_option maxRecDepth 100000 in
theorem absolute_any (w : World) (path : List UInt8) :
    Calls Tryd.prog 31 #[.string ⟨path.toArray⟩] w fun e w' => ∃ v, e = .returned (.tuple #[v, .bool (absL path).isSome]) ∧ OwnS w.heap.size w' v ((absL path).getD []) ∧ Below w.heap.size w w' := by
  have hsz := size_mk' path
  cases hq : path.isEmpty with
  | true =>
    obtain rfl := List.isEmpty_iff.1 hq
    have ha : absL [] = none := rfl
    rw [ha]
    go_enter Tryd.func31, Tryd.ntmps31
    go_wp2
    go_ret2
    exact ⟨_, rfl, OwnS.nil _ _, Below.refl _ _⟩
  | false =>
    have h0 : 0 < path.length := by
      cases path with
      | nil => simp at hq
      | cons c r => simp
    obtain ⟨c, hcx⟩ : ∃ c, path[0] = c := ⟨_, rfl⟩
    have hx : (⟨path.toArray⟩ : ByteArray)[0]'(by omega) = c := hcx
    have hhead : path.head? = some c := by rw [List.head?_eq_getElem?, List.getElem?_eq_getElem h0, hcx]
    clear hcx
    by_cases hc : c = 47
    · obtain rfl := hc
      have ha : absL path = partsL path := if_pos hhead
      have hc' : (((47 : UInt8).toNat : Int) != 47) = false := by decide
      have HP := Lib.hid (cparts_any w path)
      rw [ha]
      clear ha hhead
      go_enter Tryd.func31, Tryd.ntmps31
      go_wp2_with fail
      refine HP.out.mono ?_
      rintro e w2 ⟨v, rfl, hown, hb⟩
      have Hown := Lib.hid hown
      have Hb := Lib.hid hb
      clear hown hb
      go_wp2
      go_ret2
      exact ⟨_, rfl, Hown.out, Hb.out⟩
    · have ha : absL path = none := if_neg (by rw [hhead]; simp [hc])
      have hc' : ((c.toNat : Int) != 47) = true := by
        have : c.toNat ≠ 47 := fun e => hc (UInt8.toNat_inj.1 e)
        simp; omega
      rw [ha]
      clear ha hhead
      go_enter Tryd.func31, Tryd.ntmps31
      go_wp2
      go_ret2
      exact ⟨_, rfl, OwnS.nil _ _, Below.refl _ _⟩

theorem absL_some {path : List UInt8} {l : List (List UInt8)} (h : absL path = some l) : partsL path = some l := by
  unfold absL at h
  split at h
  · exact h
  · cases h

set_option maxHeartbeats 4000000 in
set_option maxRecDepth 100000 in
theorem cclean_any (w : World) (path : List UInt8) :
    Calls Tryd.prog 10 #[.string ⟨path.toArray⟩] w fun e w' => e = .returned (.tuple #[.string ⟨(cleanL path).1.toArray⟩, .int .i64 (cleanL path).2]) ∧ Below w.heap.size w w' := by
  rw [cleanL_abs]
  have HP := Lib.hid (absolute_any w path)
  cases hp : absL path with
  | none =>
    rw [hp] at HP
    go_enter Tryd.func10, Tryd.ntmps10
    go_wp2_with fail
    refine HP.out.mono ?_
    rintro e w2 ⟨v, rfl, hown, hb⟩
    have Hb := Lib.hid hb
    clear hown hb
    go_wp2
    go_ret2
    exact ⟨rfl, Hb.out⟩
  | some l =>
    have Hps := Lib.hid (partsL_some (absL_some hp))
    have hpl : l.length ≤ 201 := Hps.out.2.1
    rw [hp] at HP
    go_enter Tryd.func10, Tryd.ntmps10
    go_wp2_with fail
    refine HP.out.mono ?_
    rintro e w2 ⟨v, rfl, hown, hb⟩
    have hown' : OwnS w.heap.size w2 v l := hown
    have Hb := Lib.hid hb
    have Hv := Lib.hid hown'.strs.toB
    obtain ⟨a, b, off, cap, hv, hm, ha, _, hblt, hc⟩ := hown'.strs.toB
    subst hv
    have Hc := Lib.hid hc
    have hw2 := hb.size
    clear hown hown' hb hc
    go_wp2_with fail
    go_loopw [6, 7] (fun x i wr => ∃ (k : Nat), i = .int .i64 k ∧ k ≤ l.length ∧ OwnS w.heap.size wr x (lexF [] (l.take k)) ∧ Below w2.heap.size w2 wr) (fun _ i _ => l.length - (intOf i).toNat)
    case atStart => exact ⟨0, rfl, Nat.zero_le _, OwnS.nil _ _, Below.refl _ _⟩
    case round =>
      obtain ⟨k, rfl, hk, hown, hbel⟩ := hrel
      have Hown := Lib.hid hown
      have Hbel := Lib.hid hbel
      have hBr := hbel.size
      by_cases hlt : k < l.length
      · obtain rfl := ha (by omega)
        have gc : wr.cell? ⟨b, off + k, none⟩ = some (.string ⟨(snth l k).toArray⟩) := by
          rw [hbel.cell (p := ⟨b, off + k, none⟩) (hblt (by omega))]; exact Hc.out k hlt
        have hsn := lexF_snoc (snth l k) (l.take k) []
        rw [← snth_take l k hlt] at hsn
        have Hsn := Lib.hid hsn
        have hfl := lexF_take_len l k
        clear hbel hsn
        generalize snth l k = p at *
        generalize lexF [] (l.take k) = out at *
        by_cases hd : p = [46, 46]
        · subst hd
          have HA := Lib.hid (above_any w.heap.size wr _ out hown (by omega))
          clear hown
          go_wp2_with fail
          refine HA.out.mono ?_
          rintro e w3 ⟨u, rfl, hu, rfl⟩
          have Hu := Lib.hid hu
          clear hu
          go_wp2
          go_roundw
          case rel => exact ⟨k + 1, by go_num, by omega, by rw [Hsn.out, if_neg (by simp)]; exact Hu.out, Hbel.out⟩
          case measure => simp [intOf]; omega
        · have hd1 : (p != [46, 46]) = true := by simp [hd]
          have hd2 : (p == [46, 46]) = false := by simp [hd]
          have HU := Lib.hid (under_any w.heap.size wr _ out p hown (by omega))
          have Hd := Lib.hid hd
          clear hd hown
          go_wp2_with fail
          refine HU.out.mono ?_
          rintro e w3 ⟨u, rfl, hu, hb3⟩
          have Hu := Lib.hid (hu.mono (show w.heap.size ≤ wr.heap.size by omega))
          have Hb3 := Lib.hid (Hbel.out.trans (hb3.mono hBr))
          clear hu hb3
          go_wp2
          go_roundw
          case rel => exact ⟨k + 1, by go_num, by omega, by rw [Hsn.out, if_pos Hd.out]; exact Hu.out, Hb3.out⟩
          case measure => simp [intOf]; omega
      · have hown2 := hown
        rw [List.take_of_length_le (by omega)] at hown2
        have HT := Lib.hid (text_any wr _ (lexF [] l) hown2.strs (fun q hq => by
          rcases lexF_mem l [] q hq with h | h
          · simp at h
          · exact Hps.out.2.2 q h) (by have h1 := lexF_len l []; simp at h1; omega))
        clear hown hown2 hbel
        go_wp2_with fail
        refine HT.out.mono ?_
        rintro e w3 ⟨rfl, rfl⟩
        go_wp2
        go_ret2
        exact ⟨rfl, Hb.out.trans (Hbel.out.mono hw2)⟩

end Go.Proofs.YtgoecmfjidcieaaDoor
