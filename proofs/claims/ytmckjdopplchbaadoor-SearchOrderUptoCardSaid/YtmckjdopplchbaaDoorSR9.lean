/- Lemmas that the claim is proved from: what calls of functions of the program come to (contracts), and plain laws. Each lemma bears its own conditions. -/
import Derived.Test.YtmckjdopplchbaaDoorSR8
namespace Go.Proofs.YtmckjdopplchbaaDoor
set_option linter.unusedVariables false
set_option linter.unusedSimpArgs false
open Go.RowKit

theorem expandL_lib (o : List UInt8) : expandL wLibDir o = (wLibDir, 0) := by
  have : exp o 0 wLibDir = some wLibDir := by simp [wLibDir, exp]
  rw [expandL, this]; rfl
theorem expandL_usr (o : List UInt8) : expandL wUsrDir o = (wUsrDir, 0) := by
  have : exp o 0 wUsrDir = some wUsrDir := by simp [wUsrDir, exp]
  rw [expandL, this]; rfl
theorem inL_lits (name o : List UInt8) (l : List (List UInt8)) : inL name o l [wLibDir, wUsrDir] = putL (putL l ([47, 108, 105, 98, 47] ++ name)) ([47, 117, 115, 114, 47, 108, 105, 98, 47] ++ name) := by
  rw [inL, inL, inL, expandL_lib, expandL_usr]
  rfl
theorem knowL_some {name : List UInt8} {ks : List (List UInt8 × List UInt8)} {l : List (List UInt8)} {p : List UInt8} (h : knownL name ks = some p) : knowL name ks l = putL l p := by rw [knowL, h]
theorem knowL_none {name : List UInt8} {ks : List (List UInt8 × List UInt8)} {l : List (List UInt8)} (h : knownL name ks = none) : knowL name ks l = l := by rw [knowL, h]
theorem knownL_keep (name p : List UInt8) : ∀ (a b : List (List UInt8 × List UInt8)), knownL name a = some p → knownL name (a ++ b) = some p
  | [], _, h => by cases h
  | k :: a, b, h => by
    rw [knownL] at h
    rw [List.cons_append, knownL]
    split at h
    · rename_i hc; rw [if_pos hc]; exact h
    · rename_i hc; rw [if_neg hc]; exact knownL_keep name p a b h

set_option maxHeartbeats 4000000 in
set_option maxRecDepth 100000 in
theorem ccand_slash (w : World) (name o : List UInt8) (rpv pv cv : Value) (rp ps : List (List UInt8)) (ks : List (List UInt8 × List UInt8))
    (ho : o.length ≤ 5000) (hz : name.length ≤ 9223372036854775807) (hc : namedN name ≠ 0 ∨ slashB name = true) :
    Calls Tryd.prog 23 #[.string ⟨name.toArray⟩, .string ⟨o.toArray⟩, rpv, .agg #[pv, cv]] w (CandPost w (candL name o rp ps ks)) := by
  have hsz := size_mk name
  by_cases hn : namedN name = 0
  case neg =>
    have Hr : Hid (candL name o rp ps ks = ([], 120)) := Lib.hid (if_neg hn)
    cases hq : name.isEmpty with
    | true =>
      clear hn hc
      go_enter Tryd.func23, Tryd.ntmps23
      go_wp2
      go_ret2
      exact CandPost.mk Hr.out (OwnS.nil _ _) ((Below.refl _ _).alloc (Nat.le_refl _) _)
    | false =>
      have hl : 200 < name.length := by
        have := hn
        unfold namedN at this
        split at this
        · rename_i h
          rcases h with h | h
          · rw [h] at hq; cases hq
          · exact h
        · exact absurd rfl this
      clear hn hc
      go_enter Tryd.func23, Tryd.ntmps23
      go_wp2
      go_ret2
      exact CandPost.mk Hr.out (OwnS.nil _ _) ((Below.refl _ _).alloc (Nat.le_refl _) _)
  case pos =>
    have hs : slashB name = true := hc.resolve_left (fun h => h hn)
    obtain ⟨hne, hnl⟩ := namedN_len hn
    have hq : name.isEmpty = false := by cases name with
      | nil => exact absurd rfl hne
      | cons _ _ => rfl
    have hnl2 : ¬ 200 < name.length := by omega
    have Hct := Lib.hid (fun (wx : World) => slashed_any wx name (by omega))
    rw [hs] at Hct
    have Hr : Hid (candL name o rp ps ks = if (expandL name o).2 = 0 then (if (cleanL (expandL name o).1).2 = 0 then ([(cleanL (expandL name o).1).1], 0) else ([], (cleanL (expandL name o).1).2)) else ([], (expandL name o).2)) := Lib.hid (by
      rw [candL, if_pos hn, if_pos hs])
    have HE := Lib.hid (fun (wx : World) => rexpand_any wx name o ho)
    have HC := Lib.hid (fun (wx : World) => cclean_any wx (expandL name o).1)
    clear hn hc hs hne
    generalize expandL name o = x at *
    obtain ⟨x1, x2⟩ := x
    simp only at Hr HE HC
    go_enter Tryd.func23, Tryd.ntmps23
    go_wp2_with fail
    refine (Hct.out _).mono ?_
    rintro e w2 ⟨rfl, rfl⟩
    go_wp2_with fail
    refine (HE.out _).mono ?_
    rintro e w2 ⟨rfl, hb2⟩
    have Hb2 := Lib.hid (((Below.refl w.heap.size w).alloc (Nat.le_refl _) (.cells #[pv, cv] 47 (0, 0))).trans (hb2.mono (by simp)))
    clear hb2
    by_cases hx : x2 = 0
    case neg =>
      have Hr2 : Hid (candL name o rp ps ks = ([], x2)) := Lib.hid (by rw [Hr.out, if_neg hx])
      go_wp2
      go_ret2
      exact CandPost.mk Hr2.out (OwnS.nil _ _) Hb2.out
    case pos =>
      subst hx
      have HC2 := Lib.hid (HC.out w2)
      simp only [if_true] at Hr
      generalize cleanL x1 = y at *
      obtain ⟨y1, y2⟩ := y
      simp only at Hr HC2
      clear HC
      go_wp2_with fail
      refine HC2.out.mono ?_
      rintro e w3 ⟨rfl, hb3⟩
      have Hb3 := Lib.hid (Hb2.out.trans (hb3.mono Hb2.out.size))
      have hB3 := Hb3.out.size
      clear hb3
      by_cases hy : y2 = 0
      case neg =>
        have Hr2 : Hid (candL name o rp ps ks = ([], y2)) := Lib.hid (by rw [Hr.out, if_neg hy])
        go_wp2
        go_ret2
        exact CandPost.mk Hr2.out (OwnS.nil _ _) Hb3.out
      case pos =>
        subst hy
        have Hr2 : Hid (candL name o rp ps ks = ([y1], 0)) := Lib.hid (by rw [Hr.out]; rfl)
        go_wp2
        go_ret2
        exact CandPost.mk Hr2.out (ownS_one _ hB3) (Hb3.out.alloc hB3 _)

set_option maxHeartbeats 8000000 in
set_option maxRecDepth 100000 in
theorem ccand_plain (w : World) (name o : List UInt8) (rpv pv cv : Value) (rp ps : List (List UInt8)) (ks : List (List UInt8 × List UInt8))
    (hrp : StrsB w.heap.size w rpv rp) (hps : StrsB w.heap.size w pv ps) (hks : PairsB w.heap.size w cv ks) (ho : o.length ≤ 5000) (hl : rp.length + ps.length ≤ 16000000) (hn : namedN name = 0) (hs : slashB name = false) :
    Calls Tryd.prog 23 #[.string ⟨name.toArray⟩, .string ⟨o.toArray⟩, rpv, .agg #[pv, cv]] w (CandPost w (candL name o rp ps ks)) := by
  have hsz := size_mk name
  obtain ⟨hne, hnl⟩ := namedN_len hn
  have hq : name.isEmpty = false := by cases name with
    | nil => exact absurd rfl hne
    | cons _ _ => rfl
  have hnl2 : ¬ 200 < name.length := by omega
  have Hct := Lib.hid (fun (wx : World) => slashed_any wx name (by omega))
  rw [hs] at Hct
  have Hr : Hid (candL name o rp ps ks = (restL name o rp ps ks, 0)) := Lib.hid (by rw [candL, if_pos hn, if_neg (by rw [hs]; decide)])
  have Hrp := Lib.hid hrp
  have Hps := Lib.hid hps
  have Hks := Lib.hid hks
  have l1 := size_mk ([47, 108, 105, 98, 47] : List UInt8)
  have l2 := size_mk ([47, 117, 115, 114, 47, 108, 105, 98, 47] : List UInt8)
  have a1 : (⟨#[47, 108, 105, 98, 47]⟩ : ByteArray) ++ ⟨name.toArray⟩ = ⟨([47, 108, 105, 98, 47] ++ name).toArray⟩ := mk_append [47, 108, 105, 98, 47] name
  have a2 : (⟨#[47, 117, 115, 114, 47, 108, 105, 98, 47]⟩ : ByteArray) ++ ⟨name.toArray⟩ = ⟨([47, 117, 115, 114, 47, 108, 105, 98, 47] ++ name).toArray⟩ := mk_append [47, 117, 115, 114, 47, 108, 105, 98, 47] name
  clear hn hs hne hrp hps hks
  go_enter Tryd.func23, Tryd.ntmps23
  go_wp2_with fail
  refine (Hct.out _).mono ?_
  rintro e w2 ⟨rfl, rfl⟩
  go_wp2_with fail
  have F := heap_alloc_new w (.cells #[pv, cv] 47 (0, 0))
  have B1 := Lib.hid ((Below.refl w.heap.size w).alloc (Nat.le_refl _) (.cells #[pv, cv] 47 (0, 0)))
  have hz1 : (w.alloc (.cells #[pv, cv] 47 (0, 0))).heap.size = w.heap.size + 1 := by simp
  generalize w.alloc (.cells #[pv, cv] 47 (0, 0)) = w1 at *
  have F1 := Lib.hid F
  have Z1 := Lib.hid hz1
  clear F hz1
  refine (in_any (w.heap.size + 1) w1 _ rpv [] rp name o (OwnS.nil _ _) ((Hrp.out.below B1.out).mono (by omega)) (by rw [Z1.out]; omega) (by simp; omega) (by omega) ho).mono ?_
  rintro e w2 ⟨u2, rfl, hu2, hb2⟩
  have B2 := Lib.hid hb2
  have U2 := Lib.hid hu2
  have F2 := Lib.hid ((hb2.block w.heap.size (by omega)).trans F1.out)
  have c2 : w2.cell? ⟨w.heap.size, 0, none⟩ = some pv := by rw [Lib.cell_of_heap F2.out]; rfl
  have hl1 : (inL name o [] rp).length ≤ rp.length := by have := inL_len name o rp []; simpa using this
  have Q2 := Lib.hid (B1.out.trans (hb2.mono (show w.heap.size ≤ w.heap.size + 1 by omega)))
  have z2 := hb2.size
  clear hb2 hu2
  go_wp2_with fail
  refine (in_any (w.heap.size + 1) w2 _ pv (inL name o [] rp) ps name o U2.out ((Hps.out.below Q2.out).mono (by omega)) (by have := Z1.out; omega) (by omega) (by omega) ho).mono ?_
  rintro e w3 ⟨u3, rfl, hu3, hb3⟩
  have B3 := Lib.hid hb3
  have U3 := Lib.hid hu3
  have F3 := Lib.hid ((hb3.block w.heap.size (by omega)).trans F2.out)
  have Q3 := Lib.hid (Q2.out.trans (hb3.mono (show w.heap.size ≤ w.heap.size + 1 by omega)))
  have hl2 : (inL name o (inL name o [] rp) ps).length ≤ rp.length + ps.length := by have := inL_len name o ps (inL name o [] rp); omega
  have z3 := hb3.size
  clear hb3 hu3 c2
  have Hrest : Hid (restL name o rp ps ks = putL (putL (knowL name ks (inL name o (inL name o [] rp) ps)) ([47, 108, 105, 98, 47] ++ name)) ([47, 117, 115, 114, 47, 108, 105, 98, 47] ++ name)) := Lib.hid (by rw [restL, inL_lits])
  generalize inL name o (inL name o [] rp) ps = L at *
  obtain ⟨u3a, u3c, hu3e⟩ := U3.out.form
  subst hu3e
  obtain ⟨ka, kb, koff, kcap, rfl, hkmx, hka, _, hkblt, hkc⟩ := Hks.out
  have Hkc := Lib.hid hkc
  have cv3 : w3.cell? ⟨w.heap.size, 1, none⟩ = some (.slice ka ks.length kcap) := by rw [Lib.cell_of_heap F3.out]; rfl
  have Cv3 := Lib.hid cv3
  clear hkc cv3
  go_wp2_with fail
  go_loopw [13, 14, 15] (fun l f i wr => ∃ (k : Nat) (fb : Bool), i = .int .i64 k ∧ k ≤ ks.length ∧ f = .bool fb ∧ fb = (knownL name (ks.take k)).isSome ∧ OwnS (w.heap.size + 1) wr l (knowL name (ks.take k) L) ∧ Below (w.heap.size + 1) w3 wr) (fun _ _ i _ => ks.length - (intOf i).toNat)
  case atStart => exact ⟨0, false, rfl, Nat.zero_le _, rfl, rfl, U3.out, Below.refl _ _⟩
  case round =>
    obtain ⟨k, fb, rfl, hk, rfl, hfb, hown, hbel⟩ := hrel
    have Hfb := Lib.hid hfb
    have Hown := Lib.hid hown
    have Hbel := Lib.hid hbel
    have hBr := hbel.size
    have hZB : w.heap.size + 1 ≤ wr.heap.size := by have := Z1.out; omega
    have Qr := Lib.hid (Q3.out.trans (hbel.mono (show w.heap.size ≤ w.heap.size + 1 by omega)))
    have cvr : wr.cell? ⟨w.heap.size, 1, none⟩ = some (.slice ka ks.length kcap) := by rw [hbel.cell (p := ⟨w.heap.size, 1, none⟩) (by simp)]; exact Cv3.out
    have hkl := knowL_len name (ks.take k) L
    by_cases hlt : k < ks.length
    · obtain rfl := hka (by omega)
      have gc : wr.cell? ⟨kb, koff + k * 2, none⟩ = some (.string ⟨(pkey ks k).toArray⟩) := by
        rw [Qr.out.cell (p := ⟨kb, koff + k * 2, none⟩) (hkblt (by omega))]; exact (Hkc.out k hlt).1
      have gc2 : wr.cell? ⟨kb, koff + k * 2 + 1, none⟩ = some (.string ⟨(pval ks k).toArray⟩) := by
        rw [Qr.out.cell (p := ⟨kb, koff + k * 2 + 1, none⟩) (hkblt (by omega))]; exact (Hkc.out k hlt).2
      have Ht := Lib.hid (pkey_take ks k hlt)
      clear hown hbel hfb
      generalize pkey ks k = p at *
      generalize pval ks k = q at *
      cases fb with
      | true =>
        have hex : ∃ x, knownL name (ks.take k) = some x := Option.isSome_iff_exists.1 Hfb.out.symm
        obtain ⟨x, hx⟩ := hex
        have H1 : Hid (knownL name (ks.take (k + 1)) = some x) := Lib.hid (by rw [Ht.out]; exact knownL_keep name x _ _ hx)
        have H2 : Hid (knowL name (ks.take (k + 1)) L = knowL name (ks.take k) L) := Lib.hid (by rw [knowL_some H1.out, knowL_some hx])
        clear hx
        cases hez : p == name
        all_goals
          go_wp2
          go_roundw
          case rel => exact ⟨k + 1, true, by go_num, by omega, rfl, by rw [H1.out]; rfl, by rw [H2.out]; exact Hown.out, Hbel.out⟩
          case measure => simp [intOf]; omega
      | false =>
        have hno : knownL name (ks.take k) = none := by
          have := Hfb.out
          cases h : knownL name (ks.take k) with
          | none => rfl
          | some x => rw [h] at this; cases this
        cases hez : p == name with
        | false =>
          have H1 : Hid (knownL name (ks.take (k + 1)) = none) := Lib.hid (by rw [Ht.out]; exact knownL_miss name (p, q) (by rw [beq_eq_false_iff_ne] at hez; exact hez) _ hno)
          have H2 : Hid (knowL name (ks.take (k + 1)) L = knowL name (ks.take k) L) := Lib.hid (by rw [knowL_none H1.out, knowL_none hno])
          clear hno
          go_wp2
          go_roundw
          case rel => exact ⟨k + 1, false, by go_num, by omega, rfl, by rw [H1.out]; rfl, by rw [H2.out]; exact Hown.out, Hbel.out⟩
          case measure => simp [intOf]; omega
        | true =>
          have H1 : Hid (knownL name (ks.take (k + 1)) = some q) := Lib.hid (by
            rw [Ht.out]
            have e : p = name := beq_iff_eq.1 hez
            rw [e]
            exact knownL_hit name q _ [] hno)
          have H2 : Hid (knowL name (ks.take (k + 1)) L = putL L q) := Lib.hid (knowL_some H1.out)
          have H3 : Hid (knowL name (ks.take k) L = L) := Lib.hid (knowL_none hno)
          rw [H3.out] at Hown
          obtain ⟨xa, xc, hxe⟩ := Hown.out.form
          subst hxe
          have HP := Lib.hid (put_any (w.heap.size + 1) wr _ L q Hown.out (by omega) (by omega))
          clear hno
          go_wp2_with fail
          refine HP.out.mono ?_
          rintro e w4 ⟨u, rfl, hu, hb4⟩
          have Hu := Lib.hid hu
          have Hb4 := Lib.hid (Hbel.out.trans hb4)
          clear hu hb4
          go_wp2
          go_roundw
          case rel => exact ⟨k + 1, true, by go_num, by omega, rfl, by rw [H1.out]; rfl, by rw [H2.out]; exact Hu.out, Hb4.out⟩
          case measure => simp [intOf]; omega
    · have hown2 := hown
      rw [List.take_of_length_le (by omega)] at hown2 hkl
      have HP := Lib.hid (put_any (w.heap.size + 1) wr _ (knowL name ks L) (47 :: 108 :: 105 :: 98 :: 47 :: name) hown2 hZB (by omega))
      have hpl := putL_len (knowL name ks L) (47 :: 108 :: 105 :: 98 :: 47 :: name)
      have Hrest2 : Hid (restL name o rp ps ks = putL (putL (knowL name ks L) (47 :: 108 :: 105 :: 98 :: 47 :: name)) (47 :: 117 :: 115 :: 114 :: 47 :: 108 :: 105 :: 98 :: 47 :: name)) := Hrest
      clear hown hbel hown2 hfb Hown Hrest
      generalize knowL name ks L = L2 at *
      generalize putL L2 (47 :: 108 :: 105 :: 98 :: 47 :: name) = L3 at *
      go_wp2_with fail
      refine HP.out.mono ?_
      rintro e w4 ⟨u4, rfl, hu4, hb4⟩
      have HP2 := Lib.hid (put_any (w.heap.size + 1) w4 _ L3 (47 :: 117 :: 115 :: 114 :: 47 :: 108 :: 105 :: 98 :: 47 :: name) hu4 (Nat.le_trans hZB hb4.size) (by omega))
      have Hb4 := Lib.hid (Hbel.out.trans hb4)
      clear hu4 hb4
      go_wp2_with fail
      refine HP2.out.mono ?_
      rintro e w5 ⟨u5, rfl, hu5, hb5⟩
      have Hu5 := Lib.hid (OwnS.mono hu5 (show w.heap.size ≤ w.heap.size + 1 by omega))
      have Qz := Lib.hid (Q3.out.trans ((Hb4.out.trans hb5).mono (show w.heap.size ≤ w.heap.size + 1 by omega)))
      clear hu5 hb5
      go_wp2
      go_ret2
      exact CandPost.mk Hr.out (by rw [Hrest2.out]; exact Hu5.out) Qz.out

end Go.Proofs.YtmckjdopplchbaaDoor
