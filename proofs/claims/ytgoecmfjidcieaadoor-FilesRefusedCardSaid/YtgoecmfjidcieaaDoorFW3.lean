/- Lemmas that the claim is proved from: what calls of functions of the program come to (contracts), and plain laws. Each lemma bears its own conditions. -/
import Derived.Test.YtgoecmfjidcieaaDoorFW2
namespace Go.Proofs.YtgoecmfjidcieaaDoor
set_option linter.unusedVariables false
set_option linter.unusedSimpArgs false
open Go.RowKit

theorem OwnS.dropLast {B : Nat} {w : World} {g n cap : Nat} {xs : List (List UInt8)} (h : OwnS B w (.slice (some ⟨g, 0, none⟩) n cap) xs) (hn : xs.length = n) : OwnS B w (.slice (some ⟨g, 0, none⟩) (n - 1) cap) xs.dropLast := by
  subst hn
  obtain ⟨h1, h2⟩ := h
  rcases h2 with ⟨h2, _⟩ | ⟨g', cap', cur, hv, hg, hh, hle, hcap, hs, ht⟩
  · cases h2
  · simp only [Value.slice.injEq, Option.some.injEq, Addr.mk.injEq, and_true, true_and] at hv
    obtain ⟨rfl, rfl⟩ := hv
    refine ⟨by simp [Go.Proofs.YtgoecmfjidcieaaDoor.strs], .inr ⟨g, cap, cur, by rw [List.length_dropLast], hg, hh, by rw [List.length_dropLast]; omega, hcap, hs, ?_⟩⟩
    have e : cur.toList.take (xs.dropLast.length * 1) = (cur.toList.take (xs.length * 1)).take (xs.length - 1) := by
      rw [List.take_take]; congr 1; simp
    rw [e, ht, List.dropLast_eq_take]
    simp [Go.Proofs.YtgoecmfjidcieaaDoor.strs]
theorem OwnS.cap {B : Nat} {w : World} {g n cap : Nat} {xs : List (List UInt8)} (h : OwnS B w (.slice (some ⟨g, 0, none⟩) n cap) xs) (hn : xs.length = n) : n ≤ cap := by
  subst hn
  obtain ⟨_, _, _, _, e, _, _, hc, _⟩ := h.strs
  simp only [Value.slice.injEq] at e
  omega
theorem lexF_take_len (ps : List (List UInt8)) (k : Nat) : (lexF [] (ps.take k)).length ≤ ps.length := by
  have := lexF_len (ps.take k) []
  simp at this
  omega

set_option maxHeartbeats 4000000 in
set_option maxRecDepth 100000 in
theorem lexical_any (w : World) (v : Value) (ps : List (List UInt8)) (hv : Strs w v ps) (hl : ps.length ≤ 16777216) :
    Calls Tryd.prog 30 #[v] w fun e w' => ∃ u, e = .returned u ∧ OwnS w.heap.size w' u (lexF [] ps) ∧ Below w.heap.size w w' := by
  obtain ⟨a, b, off, cap, rfl, hm, ha, _, hblt, hc⟩ := hv.toB
  have Hc := Lib.hid hc
  clear hc
  go_enter Tryd.func30, Tryd.ntmps30
  go_wp2
  go_loopw [3, 8] (fun l i wr => ∃ (k : Nat), i = .int .i64 k ∧ k ≤ ps.length ∧ OwnS w.heap.size wr l (lexF [] (ps.take k)) ∧ Below w.heap.size w wr) (fun _ i _ => ps.length - (intOf i).toNat)
  case atStart => exact ⟨0, rfl, Nat.zero_le _, OwnS.nil _ _, Below.refl _ _⟩
  case round =>
    obtain ⟨k, rfl, hk, hown, hbel⟩ := hrel
    have Hown := Lib.hid hown
    have Hbel := Lib.hid hbel
    have hBr := hbel.size
    by_cases hlt : k < ps.length
    · obtain rfl := ha (by omega)
      have gc : wr.cell? ⟨b, off + k, none⟩ = some (.string ⟨(snth ps k).toArray⟩) := by
        rw [hbel.cell (p := ⟨b, off + k, none⟩) (hblt (by omega))]; exact Hc.out k hlt
      have hsn := lexF_snoc (snth ps k) (ps.take k) []
      rw [← snth_take ps k hlt] at hsn
      have Hsn := Lib.hid hsn
      have Hfl := Lib.hid (lexF_take_len ps k)
      clear hbel hsn
      generalize snth ps k = p at *
      generalize lexF [] (ps.take k) = out at *
      by_cases hd : p = [46, 46]
      · subst hd
        by_cases h0 : out.length = 0
        · obtain ⟨a3, c3, rfl⟩ := hown.form
          clear hown
          go_wp2
          go_roundw
          case rel => exact ⟨k + 1, by go_num, by omega, by
            rw [Hsn.out, if_neg (by simp)]
            have := Hown.out
            rw [List.eq_nil_of_length_eq_zero h0] at this ⊢
            exact this, Hbel.out⟩
          case measure => simp [intOf]; omega
        · have hh := hown
          rcases hown.2 with ⟨_, hz⟩ | ⟨g, cap3, cur, rfl, _⟩
          · exact absurd hz h0
          have hcap := hh.cap rfl
          have Hdl := Lib.hid (hh.dropLast rfl)
          have hol := Hfl.out
          have e1 : ((out.length : Int) - 1).toNat = out.length - 1 := by omega
          clear hown hh
          go_wp2
          go_roundw
          case rel => exact ⟨k + 1, by go_num, by omega, by rw [Hsn.out, if_neg (by simp)]; first | exact Hdl.out | (rw [e1]; exact Hdl.out), Hbel.out⟩
          case measure => simp [intOf]; omega
      · have hd1 : (p != [46, 46]) = true := by simp [hd]
        have hd2 : (p == [46, 46]) = false := by simp [hd]
        have Hd := Lib.hid hd
        clear hd hown
        go_wp2_with (at_builtin; refine wpList_appendStr _ rfl (.tmp 15) (.tmp 17) rfl w.heap.size _ _ rfl (Hown.out.alloc _) wr.heap.size p rfl ?c1 (by have := Hfl.out; omega) ?c2 ?_)
        case c2 => first | omega | (simp; omega)
        intro v' w2 hown' hbel'
        have Hown' := Lib.hid hown'
        have Hbel' := Lib.hid ((Hbel.out.alloc hBr _).trans hbel')
        clear hown' hbel'
        go_wp2
        go_roundw
        case rel => exact ⟨k + 1, by go_num, by omega, by rw [Hsn.out, if_pos Hd.out]; exact Hown'.out, Hbel'.out⟩
        case measure => simp [intOf]; omega
    · have hown2 := hown
      rw [List.take_of_length_le (by omega)] at hown2
      have Hown2 := Lib.hid hown2
      clear hown hown2 hbel
      go_wp2
      go_ret
      exact ⟨_, rfl, Hown2.out, Hbel.out⟩

end Go.Proofs.YtgoecmfjidcieaaDoor
