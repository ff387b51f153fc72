/- Lemmas that the claim is proved from: what calls of functions of the program come to (contracts), and plain laws. Each lemma bears its own conditions. -/
import Derived.Test.YtmckjdopplchbaaDoorSRC
namespace Go.Proofs.YtmckjdopplchbaaDoor
set_option linter.unusedVariables false
set_option linter.unusedSimpArgs false
open Go.RowKit

theorem putL_hom (l : List (List UInt8)) (p : List UInt8) : putL l p = l ++ putL [] p := by
  unfold putL; split <;> simp
theorem inL_hom (name o : List UInt8) : ∀ (ds l : List (List UInt8)), inL name o l ds = l ++ inL name o [] ds
  | [], l => by simp [inL]
  | d :: ds, l => by
    rw [inL, inL]
    split
    · rw [inL_hom name o ds (putL l _), inL_hom name o ds (putL [] _), putL_hom l]
      simp
    · rw [inL_hom name o ds l]
theorem knowL_hom (name : List UInt8) (ks : List (List UInt8 × List UInt8)) (l : List (List UInt8)) : knowL name ks l = l ++ knowL name ks [] := by
  unfold knowL
  split
  · exact putL_hom l _
  · simp
/-- the candidates of a name without a slash, by their parts -/
theorem candL_parts {name o : List UInt8} (hn : namedN name = 0) (hs : slashB name = false) : ∃ D : List (List UInt8), D.length ≤ 2 ∧ ∀ (rp ps : List (List UInt8)) (ks : List (List UInt8 × List UInt8)),
    candL name o rp ps ks = (inL name o [] rp ++ (inL name o [] ps ++ (knowL name ks [] ++ D)), 0) := by
  refine ⟨inL name o [] [wLibDir, wUsrDir], by have := inL_len name o [wLibDir, wUsrDir] []; simpa using this, fun rp ps ks => ?_⟩
  rw [candL, if_pos hn, if_neg (by rw [hs]; decide), restL, inL_hom name o [wLibDir, wUsrDir], knowL_hom, inL_hom name o ps]
  simp

theorem OwnS.prefix {B : Nat} {w : World} {a : Option Addr} {n c : Nat} {xs ys : List (List UInt8)} (h : OwnS B w (.slice a n c) (xs ++ ys)) : OwnS B w (.slice a xs.length c) xs := by
  obtain ⟨h1, h2⟩ := h
  rcases h2 with ⟨e, h0⟩ | ⟨g, cap, cur, e, hg, hh, hle, hcap, hs, ht⟩
  · simp only [Value.slice.injEq] at e
    obtain ⟨rfl, rfl, rfl⟩ := e
    obtain rfl : xs = [] := List.eq_nil_of_length_eq_zero (by rw [List.length_append] at h0; omega)
    exact OwnS.nil B w
  · simp only [Value.slice.injEq] at e
    obtain ⟨rfl, rfl, rfl⟩ := e
    rw [List.length_append] at hle
    refine ⟨by simp [Go.Proofs.YtmckjdopplchbaaDoor.strs], .inr ⟨g, c, cur, rfl, hg, hh, by omega, hcap, hs, ?_⟩⟩
    have e : cur.toList.take (xs.length * 1) = (cur.toList.take ((xs ++ ys).length * 1)).take xs.length := by
      rw [List.take_take, Nat.mul_one, Nat.mul_one, List.length_append, Nat.min_eq_left (by omega)]
    rw [e, ht]
    simp [Go.Proofs.YtmckjdopplchbaaDoor.strs]
theorem OwnS.belowAt {B C : Nat} {w w' : World} {v : Value} {xs : List (List UInt8)} (h : OwnS B w v xs) (hlt : ∀ k, v.ownBlock = some k → k < C) (hb : Below C w w') : OwnS B w' v xs := by
  refine ⟨h.1, ?_⟩
  rcases h.2 with h2 | ⟨g, cap, cur, hv, hg, hh, r⟩
  · exact Or.inl h2
  · exact Or.inr ⟨g, cap, cur, hv, hg, by rw [hb.block g (hlt g (by rw [hv]; rfl))]; exact hh, r⟩
theorem OwnS.room {B : Nat} {w : World} {a : Option Addr} {n c : Nat} {xs : List (List UInt8)} (h : OwnS B w (.slice a n c) xs) : n = xs.length ∧ xs.length ≤ c := by
  rcases h.2 with ⟨e, h0⟩ | ⟨g, cap, cur, e, hg, hh, hle, _⟩
  · simp only [Value.slice.injEq] at e
    exact ⟨by omega, by omega⟩
  · simp only [Value.slice.injEq] at e
    exact ⟨by omega, by omega⟩

theorem cand_eq (m : Int) (w : World) (name o : List UInt8) (rpv pv cv : Value) (rp ps : List (List UInt8)) (ks : List (List UInt8 × List UInt8)) (hm : w.cell? ⟨0, 0, none⟩ = some (.int .i64 m))
    (hrp : StrsB w.heap.size w rpv rp) (hps : StrsB w.heap.size w pv ps) (hks : PairsB w.heap.size w cv ks) (ho : o.length ≤ 5000) (hz : name.length ≤ 9223372036854775807) (hl : rp.length + ps.length ≤ 16000000) (l : List (List UInt8)) (hr : candL name o rp ps ks = (l, 0)) :
    Calls Tryd.prog 22 #[.string ⟨name.toArray⟩, .string ⟨o.toArray⟩, rpv, .agg #[pv, cv]] w fun e w' => ∃ a c, e = .returned (.tuple #[.slice a l.length c, .int .i64 0]) ∧ OwnS w.heap.size w' (.slice a l.length c) l ∧ Below w.heap.size w w' := by
  refine (cand_any m w name o rpv pv cv rp ps ks hm hrp hps hks ho hz hl).mono ?_
  rintro e w' ⟨u, rfl, hu, hb⟩
  rw [hr] at hu ⊢
  obtain ⟨a, c, rfl⟩ := hu.form
  exact ⟨a, c, rfl, hu, hb⟩

set_option maxHeartbeats 8000000 in
set_option maxRecDepth 100000 in
theorem law_sorder (m : Int) (w : World) (name o : List UInt8) (rpv pv cv : Value) (rp ps : List (List UInt8)) (ks : List (List UInt8 × List UInt8)) (hm : w.cell? ⟨0, 0, none⟩ = some (.int .i64 m))
    (hrp : StrsB w.heap.size w rpv rp) (hps : StrsB w.heap.size w pv ps) (hks : PairsB w.heap.size w cv ks) (hzo : ByteArray.size ⟨o.toArray⟩ ≤ maxLen) (hl : name.length + rp.length + ps.length + ks.length ≤ 1048576) :
    Calls Tryd.prog 10 #[.agg #[.string ⟨name.toArray⟩, .string ⟨o.toArray⟩, rpv, pv, cv]] w fun e w' => e = .returned (.bool true) ∧ Below w.heap.size w w' := by
  have h0 : 0 < w.heap.size := World.block_lt_of_cell? w _ hm
  have hsz := size_mk name
  obtain ⟨pa, pc, hpe⟩ := hps.form
  obtain ⟨pn, hpn⟩ : ∃ pn, ps.length = pn := ⟨_, rfl⟩
  rw [hpn] at hpe
  subst hpe
  obtain ⟨ka, kb, koff, kc, hke, _⟩ := id hks
  obtain ⟨kn, hkn⟩ : ∃ kn, ks.length = kn := ⟨_, rfl⟩
  rw [hkn] at hke
  subst hke
  have Hpn := Lib.hid hpn
  have Hkn := Lib.hid hkn
  have Hm := Lib.hid hm
  have Hrp := Lib.hid hrp
  have Hps := Lib.hid hps
  have Hks := Lib.hid hks
  have F1 := heap_alloc_new w (.cells #[.string ⟨name.toArray⟩, .string ⟨o.toArray⟩, rpv, .slice pa pn pc, .slice ka kn kc] 40 (0, 0))
  have B1 := Lib.hid ((Below.refl w.heap.size w).alloc (Nat.le_refl _) (.cells #[.string ⟨name.toArray⟩, .string ⟨o.toArray⟩, rpv, .slice pa pn pc, .slice ka kn kc] 40 (0, 0)))
  have hz1 : (w.alloc (.cells #[.string ⟨name.toArray⟩, .string ⟨o.toArray⟩, rpv, .slice pa pn pc, .slice ka kn kc] 40 (0, 0))).heap.size = w.heap.size + 1 := by simp
  have HF1 := Lib.hid F1
  have HZ1 := Lib.hid hz1
  clear hm hrp hps hks F1 hz1 hpn hkn
  go_enter Tryd.func10, Tryd.ntmps10
  go_wp2_with fail
  generalize w.alloc (.cells #[.string ⟨name.toArray⟩, .string ⟨o.toArray⟩, rpv, .slice pa pn pc, .slice ka kn kc] 40 (0, 0)) = w1 at *
  refine (sawake_any m w1 (by rw [B1.out.cell (p := ⟨0, 0, none⟩) h0]; exact Hm.out)).mono ?_
  rintro e w2 ⟨rfl, hb2⟩
  have F2 := Lib.hid ((hb2.block w.heap.size (by have := HZ1.out; omega)).trans HF1.out)
  have B2 := Lib.hid (B1.out.trans (hb2.mono (by have := HZ1.out; omega)))
  have Z2 := Lib.hid (show w.heap.size + 1 ≤ w2.heap.size by have := HZ1.out; have := hb2.size; omega)
  obtain ⟨c0, c1, c2, c3, c4⟩ := want_cells F2.out
  clear hb2
  go_wp2_with fail
  go_loop [4] (fun i => ∃ k : Nat, k ≤ name.length ∧ i = .int .i64 k ∧ 47 ∉ name.take k) (fun i => name.length - (intOf i).toNat)
  case atStart => exact ⟨0, Nat.zero_le _, rfl, by simp⟩
  case round =>
    obtain ⟨k, hk, rfl, hn⟩ := hrel
    have Hn := Lib.hid hn
    clear hn
    by_cases hlt : k < name.length
    · obtain ⟨c, hcx⟩ : ∃ c, name[k] = c := ⟨_, rfl⟩
      have hx : (⟨name.toArray⟩ : ByteArray)[k]'(by omega) = c := by rw [getElem_mk name k (by omega) hlt]; exact hcx
      have Hcx := Lib.hid hcx
      clear hcx
      by_cases hc : c = 47
      · obtain rfl := hc
        have hc' : (((47 : UInt8).toNat : Int) == 47) = true := by decide
        go_wp2
        go_ret
        exact ⟨rfl, B2.out⟩
      · have hc' : ((c.toNat : Int) == 47) = false := by
          have : c.toNat ≠ 47 := fun e => hc (UInt8.toNat_inj.1 e)
          simp; omega
        go_wp2
        go_round
        case rel => exact ⟨k + 1, by omega, by go_num, slash_take name k hlt Hn.out (by rw [Hcx.out]; exact hc)⟩
        case measure => simp [intOf]; omega
    · have hs : slashB name = false := by
        have := Hn.out
        rw [List.take_of_length_le (by omega)] at this
        unfold slashB
        rw [Bool.eq_false_iff]
        intro h
        exact this (List.contains_iff_mem.1 h)
      have Hs := Lib.hid hs
      clear hs
      go_wp2_with fail
      refine (few_any w2 name o rpv _ _ hzo).mono ?_
      rintro e w3 ⟨rfl, hb3⟩
      have F3 := Lib.hid ((hb3.block w.heap.size (by have := Z2.out; omega)).trans F2.out)
      have B3 := Lib.hid (B2.out.trans (hb3.mono B2.out.size))
      have Z3 := Lib.hid (show w.heap.size + 1 ≤ w3.heap.size by have := Z2.out; have := hb3.size; omega)
      clear hb3 c0 c1 c2 c3 c4
      obtain ⟨c0, c1, c2, c3, c4⟩ := want_cells F3.out
      by_cases ho : o.length ≤ 5000
      case neg =>
        have hd : decide (o.length ≤ 5000) = false := by rw [decide_eq_false_iff_not]; exact ho
        clear ho
        rw [hd]
        go_wp2
        go_ret
        exact ⟨rfl, B3.out⟩
      case pos =>
        have hd : decide (o.length ≤ 5000) = true := by rw [decide_eq_true_eq]; exact ho
        rw [hd]
        clear hd
        by_cases hn0 : name.length = 0
        · have hn1 : ((name.length : Int) == 0) = true := by rw [beq_iff_eq]; omega
          clear hn0
          go_wp2
          go_ret
          exact ⟨rfl, B3.out⟩
        have hn1 : ((name.length : Int) == 0) = false := by rw [beq_eq_false_iff_ne]; omega
        by_cases hn2 : 200 < name.length
        · clear hn0
          go_wp2
          go_ret
          exact ⟨rfl, B3.out⟩
        have hnm : namedN name = 0 := if_neg (by
          intro h
          rcases h with h | h
          · rw [h] at hn0; exact hn0 rfl
          · exact hn2 h)
        obtain ⟨D, hD, hcand⟩ := candL_parts (o := o) hnm Hs.out
        have Hcand := Lib.hid hcand
        clear hcand hnm hn0
        have e1 : candL name o rp [] [] = (inL name o [] rp ++ D, 0) := by rw [Hcand.out]; simp [inL, knowL, knownL]
        have e2 : candL name o [] ps [] = (inL name o [] ps ++ D, 0) := by rw [Hcand.out]; simp [inL, knowL, knownL]
        have e3 : candL name o [] [] ks = (knowL name ks [] ++ D, 0) := by rw [Hcand.out]; simp [inL]
        have e4 : candL name o [] [] [] = (D, 0) := by rw [Hcand.out]; simp [inL, knowL, knownL]
        have e5 : candL name o rp ps ks = (inL name o [] rp ++ (inL name o [] ps ++ (knowL name ks [] ++ D)), 0) := Hcand.out rp ps ks
        have hA := inL_len name o rp []
        have hP := inL_len name o ps []
        have hK := knowL_len name ks []
        simp only [List.length_nil, Nat.zero_add] at hA hP hK
        generalize inL name o [] rp = A at *
        generalize inL name o [] ps = P at *
        generalize knowL name ks [] = K at *
        have E1 := Lib.hid e1
        have E2 := Lib.hid e2
        have E3 := Lib.hid e3
        have E4 := Lib.hid e4
        have E5 := Lib.hid e5
        clear e1 e2 e3 e4 e5 Hcand
        have H4 := Lib.hid (cand_eq m w3 name o rpv (.slice none 0 0) (.slice none 0 0) rp [] [] (by rw [B3.out.cell (p := ⟨0, 0, none⟩) h0]; exact Hm.out) ((Hrp.out.below B3.out).mono B3.out.size) (strsB_nil _ _) (pairsB_nil _ _) ho (by omega) (by first | omega | (simp; omega) | simp) (A ++ D) E1.out)
        go_wp2_with fail
        refine H4.out.mono ?_
        rintro e w4 ⟨a1, q1, rfl, hu, hb⟩
        have F4 := Lib.hid ((hb.block w.heap.size (by have := Z3.out; omega)).trans F3.out)
        have B4 := Lib.hid (B3.out.trans (hb.mono B3.out.size))
        have Z4 := Lib.hid (show w.heap.size + 1 ≤ w4.heap.size by have := Z3.out; have := hb.size; omega)
        have U11 := Lib.hid hu
        clear hu hb c0 c1 c2 c3 c4 H4
        obtain ⟨c0, c1, c2, c3, c4⟩ := want_cells F4.out
        have H5 := Lib.hid (cand_eq m w4 name o (.slice none 0 0) (.slice pa pn pc) (.slice none 0 0) [] ps [] (by rw [B4.out.cell (p := ⟨0, 0, none⟩) h0]; exact Hm.out) (strsB_nil _ _) ((Hps.out.below B4.out).mono B4.out.size) (pairsB_nil _ _) ho (by omega) (by first | omega | (simp; omega) | simp) (P ++ D) E2.out)
        go_wp2_with fail
        refine H5.out.mono ?_
        rintro e w5 ⟨a2, q2, rfl, hu, hb⟩
        have F5 := Lib.hid ((hb.block w.heap.size (by have := Z4.out; omega)).trans F4.out)
        have B5 := Lib.hid (B4.out.trans (hb.mono B4.out.size))
        have Z5 := Lib.hid (show w.heap.size + 1 ≤ w5.heap.size by have := Z4.out; have := hb.size; omega)
        have U12 := Lib.hid (U11.out.below hb)
        clear U11
        have U22 := Lib.hid hu
        clear hu hb c0 c1 c2 c3 c4 H5
        obtain ⟨c0, c1, c2, c3, c4⟩ := want_cells F5.out
        have H6 := Lib.hid (cand_eq m w5 name o (.slice none 0 0) (.slice none 0 0) (.slice ka kn kc) [] [] ks (by rw [B5.out.cell (p := ⟨0, 0, none⟩) h0]; exact Hm.out) (strsB_nil _ _) (strsB_nil _ _) ((Hks.out.below B5.out).mono B5.out.size) ho (by omega) (by first | omega | (simp; omega) | simp) (K ++ D) E3.out)
        go_wp2_with fail
        refine H6.out.mono ?_
        rintro e w6 ⟨a3, q3, rfl, hu, hb⟩
        have F6 := Lib.hid ((hb.block w.heap.size (by have := Z5.out; omega)).trans F5.out)
        have B6 := Lib.hid (B5.out.trans (hb.mono B5.out.size))
        have Z6 := Lib.hid (show w.heap.size + 1 ≤ w6.heap.size by have := Z5.out; have := hb.size; omega)
        have U13 := Lib.hid (U12.out.below hb)
        clear U12
        have U23 := Lib.hid (U22.out.below hb)
        clear U22
        have U33 := Lib.hid hu
        clear hu hb c0 c1 c2 c3 c4 H6
        obtain ⟨c0, c1, c2, c3, c4⟩ := want_cells F6.out
        have H7 := Lib.hid (cand_eq m w6 name o (.slice none 0 0) (.slice none 0 0) (.slice none 0 0) [] [] [] (by rw [B6.out.cell (p := ⟨0, 0, none⟩) h0]; exact Hm.out) (strsB_nil _ _) (strsB_nil _ _) (pairsB_nil _ _) ho (by omega) (by first | omega | (simp; omega) | simp) D E4.out)
        go_wp2_with fail
        refine H7.out.mono ?_
        rintro e w7 ⟨a4, q4, rfl, hu, hb⟩
        have F7 := Lib.hid ((hb.block w.heap.size (by have := Z6.out; omega)).trans F6.out)
        have B7 := Lib.hid (B6.out.trans (hb.mono B6.out.size))
        have Z7 := Lib.hid (show w.heap.size + 1 ≤ w7.heap.size by have := Z6.out; have := hb.size; omega)
        have U14 := Lib.hid (U13.out.below hb)
        clear U13
        have U24 := Lib.hid (U23.out.below hb)
        clear U23
        have U34 := Lib.hid (U33.out.below hb)
        clear U33
        have U44 := Lib.hid hu
        clear hu hb c0 c1 c2 c3 c4 H7
        obtain ⟨c0, c1, c2, c3, c4⟩ := want_cells F7.out
        have H8 := Lib.hid (cand_eq m w7 name o rpv (.slice pa pn pc) (.slice ka kn kc) rp ps ks (by rw [B7.out.cell (p := ⟨0, 0, none⟩) h0]; exact Hm.out) ((Hrp.out.below B7.out).mono B7.out.size) ((Hps.out.below B7.out).mono B7.out.size) ((Hks.out.below B7.out).mono B7.out.size) ho (by omega) (by first | omega | (simp; omega) | simp) (A ++ (P ++ (K ++ D))) E5.out)
        go_wp2_with fail
        refine H8.out.mono ?_
        rintro e w8 ⟨a5, q5, rfl, hu, hb⟩
        have F8 := Lib.hid ((hb.block w.heap.size (by have := Z7.out; omega)).trans F7.out)
        have B8 := Lib.hid (B7.out.trans (hb.mono B7.out.size))
        have Z8 := Lib.hid (show w.heap.size + 1 ≤ w8.heap.size by have := Z7.out; have := hb.size; omega)
        have U15 := Lib.hid (U14.out.below hb)
        clear U14
        have U25 := Lib.hid (U24.out.below hb)
        clear U24
        have U35 := Lib.hid (U34.out.below hb)
        clear U34
        have U45 := Lib.hid (U44.out.below hb)
        clear U44
        have U55 := Lib.hid hu
        clear hu hb c0 c1 c2 c3 c4 H8
        have r1 := U15.out.room.2
        have r2 := U25.out.room.2
        simp only [List.length_append] at r1 r2
        have g1 : (A.length : Int) + (D.length : Int) - (D.length : Int) = A.length := by omega
        have g2 : (P.length : Int) + (D.length : Int) - (D.length : Int) = P.length := by omega
        have k1 : (A.length : Int) ≤ q1 := by omega
        have k2 : (P.length : Int) ≤ q2 := by omega
        go_wp2_with (at_builtin; refine wpList_appendStrs _ rfl (.tmp 141) (.tmp 148) rfl w8.heap.size _ _ [] A rfl (OwnS.nil _ _) rfl U15.out.prefix (by simp; omega) (Nat.le_refl _) ?_)
        intro v9 w9 hown9 hb9
        have U9 := Lib.hid hown9
        have B9 := Lib.hid (B8.out.trans (hb9.mono B8.out.size))
        have U29 := Lib.hid (U25.out.below hb9)
        have U39 := Lib.hid (U35.out.below hb9)
        have U59 := Lib.hid (U55.out.below hb9)
        have s89 := hb9.size
        obtain ⟨x9, y9, he9⟩ := hown9.form
        subst he9
        clear hown9 hb9
        go_wp2_with (at_builtin; refine wpList_appendStrs _ rfl (.tmp 150) (.tmp 157) rfl w8.heap.size _ _ A P rfl U9.out rfl U29.out.prefix (by first | omega | (simp; omega)) s89 ?_)
        intro v10 w10 hown10 hb10
        have U10 := Lib.hid hown10
        have B10 := Lib.hid (B9.out.trans (hb10.mono B8.out.size))
        have U310 := Lib.hid (U39.out.belowAt (fun k e => (U35.out.lt k e).2) hb10)
        have U510 := Lib.hid (U59.out.belowAt (fun k e => (U55.out.lt k e).2) hb10)
        have s10 := hb10.size
        obtain ⟨x10, y10, he10⟩ := hown10.form
        subst he10
        have U310b : Hid (OwnS w5.heap.size w10 (.slice a3 (K.length + D.length) q3) (K ++ D)) := Lib.hid (by rw [← List.length_append]; exact U310.out)
        clear hown10 hb10 U310
        go_wp2_with (at_builtin; refine wpList_appendStrs _ rfl (.tmp 159) (.tmp 160) rfl w8.heap.size _ _ (A ++ P) (K ++ D) rfl U10.out rfl U310b.out (by first | omega | (simp; omega)) (Nat.le_trans s89 s10) ?_)
        intro v11 w11 hown11 hb11
        have U511 := Lib.hid (U510.out.belowAt (fun k e => (U55.out.lt k e).2) hb11)
        have B11 := Lib.hid (B10.out.trans (hb11.mono B8.out.size))
        have U11 : Hid (OwnS w8.heap.size w11 v11 (A ++ (P ++ (K ++ D)))) := Lib.hid (by simpa [List.append_assoc] using hown11)
        have S511 : Hid (Strs w11 (.slice a5 (A.length + (P.length + (K.length + D.length))) q5) (A ++ (P ++ (K ++ D)))) := Lib.hid (by
          have h := U511.out.strs
          simp only [List.length_append] at h
          exact h)
        clear hown11 hb11 U511
        go_wp2_with fail
        refine (ssame2_any w11 (.slice a5 (A.length + (P.length + (K.length + D.length))) q5) v11 _ _ S511.out U11.out.strs).mono ?_
        rintro e w12 ⟨rfl, n, rfl⟩
        go_wp2
        go_ret
        exact ⟨by simp, below_drewN B11.out n⟩

end Go.Proofs.YtmckjdopplchbaaDoor
