/- Lemmas that the claim is proved from: what calls of functions of the program come to (contracts), and plain laws. Each lemma bears its own conditions. -/
import Derived.Test.YtmckjdopplchbaaDoorTE3
import Derived.Test.YtmckjdopplchbaaDoorTPlain3
namespace Go.Proofs.YtmckjdopplchbaaDoor
set_option linter.unusedVariables false
set_option linter.unusedSimpArgs false
open Go.RowKit

theorem eq_of_snth {xs ys : List (List UInt8)} (hl : xs.length = ys.length) (h : ∀ j, j < xs.length → snth xs j = snth ys j) : xs = ys := by
  apply List.ext_getElem hl
  intro i h1 h2
  rw [← snth_eq xs i h1, ← snth_eq ys i h2]; exact h i h1

theorem ret_bool' {a b : Bool} (h : a = b) : Ending.returned (.bool a) = .returned (.bool b) := by rw [h]

set_option maxHeartbeats 2000000 in
theorem ssame_any (w : World) (v u : Value) (xs ys : List (List UInt8)) (hx : Strs w v xs) (hy : Strs w u ys) :
    Calls Tryd.prog 16 #[v, u] w fun e w' => e = .returned (.bool (decide (xs = ys))) ∧ ∃ m, w' = w.drewN m := by
  obtain ⟨a, b, off, cap, rfl, hm, ha, _, hc⟩ := hx
  obtain ⟨a2, b2, off2, cap2, rfl, hm2, ha2, _, hc2⟩ := hy
  by_cases hl : xs.length = ys.length
  case neg =>
    have hlz : ((xs.length : Int) != (ys.length : Int)) = true := by rw [bne_iff_ne]; omega
    go_enter Tryd.func16, Tryd.ntmps16
    go_wp2
    go_ret
    exact ⟨ret_bool' (by rw [eq_comm, decide_eq_false_iff_not]; intro e; rw [e] at hl; exact hl rfl), 0, rfl⟩
  have hlz : ((xs.length : Int) != (ys.length : Int)) = false := by rw [bne_eq_false_iff_eq]; omega
  have Hl := Lib.hid hl; clear hl
  go_enter Tryd.func16, Tryd.ntmps16
  go_wp2
  go_loopw [5] (fun i wr => ∃ k m : Nat, k ≤ xs.length ∧ i = .int .i64 k ∧ wr = w.drewN m ∧ ∀ j, j < k → snth xs j = snth ys j) (fun i _ => xs.length - (intOf i).toNat)
  case atStart => exact ⟨0, 0, Nat.zero_le _, rfl, rfl, fun _ h => absurd h (Nat.not_lt_zero _)⟩
  case round =>
    obtain ⟨k, m, hk, rfl, rfl, hn⟩ := hrel
    have Hn := Lib.hid hn; clear hn
    by_cases hlt : k < xs.length
    · have hlt2 : k < ys.length := by rw [← Hl.out]; exact hlt
      obtain rfl := ha (by omega)
      obtain rfl := ha2 (by omega)
      have gc := hc k hlt
      have gc2 := hc2 k hlt2
      by_cases he : snth xs k = snth ys k
      · have hez : (snth xs k != snth ys k) = false := by rw [bne_eq_false_iff_eq]; exact he
        have hez2 : (snth xs k == snth ys k) = true := by rw [beq_iff_eq]; exact he
        have He := Lib.hid he; clear he
        go_wp2_with fail
        go_quiet (fail)
        go_wp2
        go_roundw
        case rel => exact ⟨k + 1, _, by omega, by go_num, rfl, fun j hj => by
          by_cases e : j = k
          · rw [e]; exact He.out
          · exact Hn.out j (by omega)⟩
        case measure => simp [intOf]; omega
      · have hez : (snth xs k != snth ys k) = true := by rw [bne_iff_ne]; exact he
        have hez2 : (snth xs k == snth ys k) = false := by rw [beq_eq_false_iff_ne]; exact he
        go_wp2_with fail
        go_quiet (fail)
        go_wp2
        go_ret
        exact ⟨ret_bool' (by rw [eq_comm, decide_eq_false_iff_not]; intro e; rw [e] at he; exact he rfl), _, World.drewN_drewN _ _ _⟩
    · go_wp2
      go_ret
      exact ⟨ret_bool' (by rw [eq_comm, decide_eq_true_eq]; exact eq_of_snth Hl.out fun j hj => Hn.out j (by omega)), _, rfl⟩

theorem extract_list (text : List UInt8) (a b : Nat) : (⟨text.toArray⟩ : ByteArray).extract a b = ⟨((text.drop a).take (b - a)).toArray⟩ := by
  rw [Lib.extract_eq]

theorem drop_take_snoc (l : List UInt8) (fr k : Nat) (h : fr ≤ k) (hk : k < l.length) : (l.drop fr).take (k + 1 - fr) = (l.drop fr).take (k - fr) ++ [l[k]] := by
  have e : k + 1 - fr = (k - fr) + 1 := by omega
  rw [e, List.take_succ_eq_append_getElem (by simp; omega)]
  congr 2
  simp
  congr 1
  omega

set_option maxHeartbeats 4000000 in
set_option maxRecDepth 100000 in
theorem rsplit_any (w : World) (text : List UInt8) (hl : text.length ≤ 1048576) :
    Calls Tryd.prog 17 #[.string ⟨text.toArray⟩] w fun e w' => ∃ v, e = .returned v ∧ OwnS w.heap.size w' v (splitL text) ∧ Below w.heap.size w w' := by
  have hsz := size_mk text
  have Hsl := Lib.hid (splitL_len text)
  go_enter Tryd.func17, Tryd.ntmps17
  go_wp2
  go_loopw [3, 4, 5] (fun v f i wr => ∃ (k fr : Nat) (out : List (List UInt8)), i = .int .i64 k ∧ f = .int .i64 fr ∧ OwnS w.heap.size wr v out ∧ Below w.heap.size w wr ∧ k ≤ text.length + 1 ∧ fr ≤ k ∧ (k ≤ text.length → out ++ pcs ((text.drop fr).take (k - fr)) (text.drop k) = splitL text) ∧ (k = text.length + 1 → out = splitL text)) (fun _ _ i _ => text.length + 1 - (intOf i).toNat)
  case atStart => exact ⟨0, 0, [], rfl, rfl, OwnS.nil _ _, Below.refl _ _, by omega, by omega, fun _ => by simp [splitL], fun h => by omega⟩
  case round =>
    obtain ⟨k, fr, out, rfl, rfl, hown, hbel, hk, hfr, he1, he2⟩ := hrel
    have Hown := Lib.hid hown
    have Hbel := Lib.hid hbel
    have He1 := Lib.hid he1
    have He2 := Lib.hid he2
    have hBr := hbel.size
    clear hown hbel he1 he2
    by_cases hlt : k ≤ text.length
    · have he := He1.out hlt
      have hol : out.length ≤ 1048577 := by
        have := congrArg List.length he
        rw [List.length_append] at this
        have := Hsl.out
        omega
      have He := Lib.hid he
      clear he
      have hrun := slice_mk w text fr k hfr hlt
      by_cases hend : k = text.length
      · subst hend
        have hpc : pcs ((text.drop fr).take (text.length - fr)) (text.drop text.length) = if fr < text.length then [(text.drop fr).take (text.length - fr)] else [] := by
          rw [List.drop_length, pcs]
          by_cases h : fr < text.length
          · rw [if_pos h, if_neg]
            intro e
            have := congrArg List.length e
            simp at this
            omega
          · rw [if_neg h, if_pos]
            rw [show text.length - fr = 0 by omega]; rfl
        have Hpc := Lib.hid hpc
        clear hpc
        by_cases hf : fr < text.length
        · have Hf : Hid (out ++ [(text.drop fr).take (text.length - fr)] = splitL text) := Lib.hid (by have := He.out; rw [Hpc.out, if_pos hf] at this; exact this)
          go_wp2_with (at_builtin; refine wpList_appendStr _ rfl (.tmp 25) (.tmp 30) rfl w.heap.size _ out rfl (Hown.out.alloc _) wr.heap.size ((text.drop fr).take (text.length - fr)) rfl ?c1 (by omega) ?c2 ?_)
          case c1 => simp [extract_list]
          case c2 => simp; omega
          intro v' w2 hown' hbel'
          have Hown' := Lib.hid hown'
          have Hbel' := Lib.hid ((Hbel.out.alloc hBr _).trans hbel')
          clear hown' hbel'
          go_wp2
          go_roundw
          case rel => exact ⟨text.length + 1, text.length + 1, _, by go_num, by go_num, Hown'.out, Hbel'.out, Nat.le_refl _, Nat.le_refl _, fun h => by omega, fun _ => Hf.out⟩
          case measure => simp [intOf]
        · have Hf : Hid (out = splitL text) := Lib.hid (by have := He.out; rw [Hpc.out, if_neg hf] at this; simpa using this)
          go_wp2
          go_roundw
          case rel => exact ⟨text.length + 1, text.length + 1, out, by go_num, by go_num, Hown.out, Hbel.out, Nat.le_refl _, Nat.le_refl _, fun h => by omega, fun _ => Hf.out⟩
          case measure => simp [intOf]
      · have hlt2 : k < text.length := by omega
        obtain ⟨c, hcx⟩ : ∃ c, text[k] = c := ⟨_, rfl⟩
        have hx : (⟨text.toArray⟩ : ByteArray)[k]'(by omega) = c := by rw [getElem_mk text k (by omega) hlt2]; exact hcx
        have Hd : Hid (text.drop k = c :: text.drop (k + 1)) := Lib.hid (by rw [← hcx]; exact List.drop_eq_getElem_cons hlt2)
        have Hsn : Hid ((text.drop fr).take (k + 1 - fr) = (text.drop fr).take (k - fr) ++ [c]) := Lib.hid (by rw [← hcx]; exact drop_take_snoc text fr k hfr hlt2)
        clear hcx
        by_cases hc : c = 58
        · obtain rfl := hc
          have hc' : (((58 : UInt8).toNat : Int) == 58) = true := by decide
          have he := He.out
          rw [Hd.out, pcs, if_pos rfl] at he
          by_cases hf : fr < k
          · have hne : (text.drop fr).take (k - fr) ≠ [] := by
              intro e
              have := congrArg List.length e
              simp at this
              omega
            rw [if_neg hne] at he
            have Hf : Hid ((out ++ [(text.drop fr).take (k - fr)]) ++ pcs [] (text.drop (k + 1)) = splitL text) := Lib.hid (by rw [← he]; simp)
            clear he hne
            go_wp2_with (at_builtin; refine wpList_appendStr _ rfl (.tmp 25) (.tmp 30) rfl w.heap.size _ out rfl (Hown.out.alloc _) wr.heap.size ((text.drop fr).take (k - fr)) rfl ?c1 (by omega) ?c2 ?_)
            case c1 => simp [extract_list]
            case c2 => simp; omega
            intro v' w2 hown' hbel'
            have Hown' := Lib.hid hown'
            have Hbel' := Lib.hid ((Hbel.out.alloc hBr _).trans hbel')
            clear hown' hbel'
            go_wp2
            go_roundw
            case rel => exact ⟨k + 1, k + 1, _, by go_num, by go_num, Hown'.out, Hbel'.out, by omega, Nat.le_refl _, fun h => by rw [Nat.sub_self, List.take_zero]; exact Hf.out, fun h => by omega⟩
            case measure => simp [intOf]; omega
          · have e0 : k - fr = 0 := by omega
            rw [e0, List.take_zero, if_pos rfl] at he
            have Hf := Lib.hid he
            clear he e0
            go_wp2
            go_roundw
            case rel => exact ⟨k + 1, k + 1, out, by go_num, by go_num, Hown.out, Hbel.out, by omega, Nat.le_refl _, fun h => by rw [Nat.sub_self, List.take_zero]; exact Hf.out, fun h => by omega⟩
            case measure => simp [intOf]; omega
        · have hc' : ((c.toNat : Int) == 58) = false := by
            have : c.toNat ≠ 58 := fun e => hc (UInt8.toNat_inj.1 e)
            simp; omega
          have he := He.out
          rw [Hd.out, pcs, if_neg hc, ← Hsn.out] at he
          have Hf := Lib.hid he
          clear he
          go_wp2
          go_roundw
          case rel => exact ⟨k + 1, fr, out, by go_num, rfl, Hown.out, Hbel.out, by omega, by omega, fun h => Hf.out, fun h => by omega⟩
          case measure => simp [intOf]; omega
    · have hkk : k = text.length + 1 := by omega
      have hfin := He2.out hkk
      go_wp2
      go_ret
      exact ⟨_, rfl, by rw [← hfin]; exact Hown.out, Hbel.out⟩

end Go.Proofs.YtmckjdopplchbaaDoor
