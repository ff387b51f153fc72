/- Lemmas that the claim is proved from: what calls of functions of the program come to (contracts), and plain laws. Each lemma bears its own conditions. -/
import Derived.Test.YtgoecmfjidcieaaDoorFW4
namespace Go.Proofs.YtgoecmfjidcieaaDoor
set_option linter.unusedVariables false
set_option linter.unusedSimpArgs false
open Go.RowKit

theorem pcA_bad : ∀ (l cur : List UInt8), cur.all letterB = false → (pcA 47 cur l).all rightB = false
  | [], cur, h => by simp only [pcA, List.all_cons, List.all_nil, Bool.and_true, rightB, h, Bool.false_and]
  | c :: l, cur, h => by
    rw [pcA]
    split
    · simp only [List.all_cons, rightB, h, Bool.false_and]
    · exact pcA_bad l (cur ++ [c]) (by rw [List.all_append, h]; rfl)
theorem drop_take_snoc' (l : List UInt8) (fr k : Nat) (h : fr ≤ k) (hk : k < l.length) : (l.drop fr).take (k + 1 - fr) = (l.drop fr).take (k - fr) ++ [l[k]] := by
  have e : k + 1 - fr = (k - fr) + 1 := by omega
  rw [e, List.take_succ_eq_append_getElem (by simp; omega)]
  congr 2
  simp
  congr 1
  omega
theorem slice_mk' (w : World) (l : List UInt8) (a b : Nat) (hab : a ≤ b) (hb : b ≤ l.length) :
    (Instr.slice 9 (.string ⟨l.toArray⟩) (some (.int .i64 a)) (some (.int .i64 b)) none).run Tryd.prog w = .ok (.string ⟨((l.drop a).take (b - a)).toArray⟩) w := by
  have hsz := size_mk' l
  rw [run_slice_string (P := Tryd.prog) w 9 ⟨l.toArray⟩ .i64 .i64 a b Tryd.underlying9 (by omega) (by omega) (by rw [hsz]; omega)]
  rw [Lib.extract_eq]
  simp

set_option maxHeartbeats 8000000 in
set_option maxRecDepth 100000 in
theorem cparts_any (w : World) (path : List UInt8) :
    Calls Tryd.prog 36 #[.string ⟨path.toArray⟩] w fun e w' => ∃ v, e = .returned (.tuple #[v, .bool (partsL path).isSome]) ∧ OwnS w.heap.size w' v ((partsL path).getD []) ∧ Below w.heap.size w w' := by
  have hsz := size_mk' path
  by_cases hlen : path.length ≤ 200
  case neg =>
    go_enter Tryd.func36, Tryd.ntmps36
    go_wp2
    go_ret2
    exact ⟨_, by rw [partsL_long hlen]; rfl, by rw [partsL_long hlen]; exact OwnS.nil _ _, Below.refl _ _⟩
  have Hyes := Lib.hid (@partsL_yes path hlen)
  have Hno : Hid ((pcA 47 [] path).all rightB = false → partsL path = none) := Lib.hid (fun h => partsL_no (by simp [h]))
  have Hpl := Lib.hid (pcA_len 47 path [])
  have hps0 : pcA 47 [] path = [] ++ pcA 47 ((path.drop 0).take (0 - 0)) (path.drop 0) := by simp
  have Hps0 := Lib.hid hps0
  clear hps0
  generalize pcA 47 [] path = ps at *
  go_enter Tryd.func36, Tryd.ntmps36
  go_wp2_with fail
  go_loopw [4, 5, 6] (fun v f i wr => ∃ (k fr : Nat) (out done : List (List UInt8)), i = .int .i64 k ∧ f = .int .i64 fr ∧ OwnS w.heap.size wr v out ∧ Below w.heap.size w wr ∧ k ≤ path.length + 1 ∧ fr ≤ k ∧ out = done.filter keepB ∧ done.all rightB = true ∧
      (k ≤ path.length → ps = done ++ pcA 47 ((path.drop fr).take (k - fr)) (path.drop k) ∧ ((path.drop fr).take (k - fr)).all letterB = true) ∧ (k = path.length + 1 → ps = done)) (fun _ _ i _ => path.length + 1 - (intOf i).toNat)
  case atStart => exact ⟨0, 0, [], [], rfl, rfl, OwnS.nil _ _, Below.refl _ _, by omega, by omega, rfl, rfl, fun _ => ⟨Hps0.out, by simp⟩, fun h => by omega⟩
  case round =>
    obtain ⟨k, fr, out, done, rfl, rfl, hown, hbel, hk, hfr, hout, hdone, he1, he2⟩ := hrel
    have Hown := Lib.hid hown
    have Hbel := Lib.hid hbel
    have Hout := Lib.hid hout
    have Hdone := Lib.hid hdone
    have He1 := Lib.hid he1
    have He2 := Lib.hid he2
    have hBr := hbel.size
    clear hown hbel he1 he2 hout hdone
    by_cases hlt : k ≤ path.length
    · obtain ⟨he, hcl⟩ := He1.out hlt
      have hol : out.length ≤ 201 := by
        have h1 := congrArg List.length he
        rw [List.length_append] at h1
        have h2 := Hpl.out
        have h3 : out.length ≤ done.length := by rw [Hout.out]; exact List.length_filter_le _ _
        omega
      have He := Lib.hid he
      have Hcl := Lib.hid hcl
      clear he hcl
      have hrun := slice_mk' wr path fr k hfr hlt
      have hcz := size_mk' ((path.drop fr).take (k - fr))
      have hczl : ((path.drop fr).take (k - fr)).length = k - fr := by simp; omega
      have Hcur : Hid (k - fr ≤ 64 → rightB ((path.drop fr).take (k - fr)) = true) := Lib.hid (fun h => by simp only [rightB, Hcl.out, hczl, Bool.true_and]; simpa using h)
      have Hcur2 : Hid (¬ k - fr ≤ 64 → rightB ((path.drop fr).take (k - fr)) = false) := Lib.hid (fun h => by simp only [rightB, Hcl.out, hczl, Bool.true_and]; simpa using h)
      generalize hp : (path.drop fr).take (k - fr) = p at *
      have Hpe : Hid ((⟨path.toArray⟩ : ByteArray).extract fr k = ⟨p.toArray⟩) := Lib.hid (by rw [Lib.extract_eq, ← hp])
      by_cases hend : k = path.length
      · have He3 : Hid (ps = done ++ [p]) := Lib.hid (by rw [He.out, hend, List.drop_length, pcA])
        subst hend
        have Hbad : Hid (rightB p = false → ps.all rightB = false) := Lib.hid (fun h => by rw [He3.out, List.all_append]; simp [h])
        have Hnext : Hid (∀ done', done' = done ++ [p] → (path.length + 1 ≤ path.length → ps = done' ++ pcA 47 ((path.drop (path.length + 1)).take (path.length + 1 - (path.length + 1))) (path.drop (path.length + 1)) ∧ ((path.drop (path.length + 1)).take (path.length + 1 - (path.length + 1))).all letterB = true) ∧ (path.length + 1 = path.length + 1 → ps = done')) :=
          Lib.hid (fun d hd => ⟨fun h => by omega, fun _ => by rw [hd]; exact He3.out⟩)
        clear hp
        by_cases h64 : p.length ≤ 64
        case neg =>
          have Hn : Hid (partsL path = none) := Lib.hid (Hno.out (Hbad.out (Hcur2.out (by omega))))
          clear Hcur Hcur2 Hbad Hnext
          go_wp2
          go_ret2
          exact ⟨_, by rw [Hn.out]; rfl, by rw [Hn.out]; exact OwnS.nil _ _, Hbel.out⟩
        have Hr := Lib.hid (Hcur.out (by omega))
        have Hdone' : Hid ((done ++ [p]).all rightB = true) := Lib.hid (by rw [List.all_append, Hdone.out]; simp [Hr.out])
        obtain ⟨hn1, hn2⟩ := Hnext.out _ rfl
        have Hn1 := Lib.hid hn1
        have Hn2 := Lib.hid hn2
        clear Hcur Hcur2 Hbad Hnext hn1 hn2
        cases hq : p.isEmpty with
        | true =>
          have Hk : Hid (out = (done ++ [p]).filter keepB) := Lib.hid (by rw [List.isEmpty_iff.1 hq, List.filter_append, Hout.out]; simp [keepB])
          go_wp2
          go_roundw
          case rel => exact ⟨path.length + 1, path.length + 1, out, done ++ [p], by go_num, by go_num, Hown.out, Hbel.out, by omega, Nat.le_refl _, Hk.out, Hdone'.out, Hn1.out, fun _ => He3.out⟩
          case measure => simp [intOf]
        | false =>
          have Hq : Hid (p ≠ []) := Lib.hid (fun e => by rw [e] at hq; simp at hq)
          by_cases hd : p = [46]
          · have Hk : Hid (out = (done ++ [p]).filter keepB) := Lib.hid (by rw [hd, List.filter_append, Hout.out]; simp [keepB])
            have hd1 : (p != [46]) = false := by simp [hd]
            have hd2 : (p == [46]) = true := by simp [hd]
            go_wp2
            go_roundw
            case rel => exact ⟨path.length + 1, path.length + 1, out, done ++ [p], by go_num, by go_num, Hown.out, Hbel.out, by omega, Nat.le_refl _, Hk.out, Hdone'.out, Hn1.out, fun _ => He3.out⟩
            case measure => simp [intOf]
          · have Hk : Hid (out ++ [p] = (done ++ [p]).filter keepB) := Lib.hid (by rw [List.filter_append, Hout.out]; simp [keepB, Hq.out, hd])
            have hd1 : (p != [46]) = true := by simp [hd]
            have hd2 : (p == [46]) = false := by simp [hd]
            clear hd
            go_wp2_with (at_builtin; refine wpList_appendStr _ rfl (.tmp 47) (.tmp 49) rfl w.heap.size _ out rfl (Hown.out.alloc _) wr.heap.size p rfl ?c1 (by omega) ?c2 ?_)
            case c2 => first | omega | (simp; omega)
            intro v' w2 hown' hbel'
            have Hown' := Lib.hid hown'
            have Hbel' := Lib.hid ((Hbel.out.alloc hBr _).trans hbel')
            clear hown' hbel'
            go_wp2
            go_roundw
            case rel => exact ⟨path.length + 1, path.length + 1, out ++ [p], done ++ [p], by go_num, by go_num, Hown'.out, Hbel'.out, by omega, Nat.le_refl _, Hk.out, Hdone'.out, Hn1.out, fun _ => He3.out⟩
            case measure => simp [intOf]
      · have hlt2 : k < path.length := by omega
        obtain ⟨c, hcx⟩ : ∃ c, path[k] = c := ⟨_, rfl⟩
        have hx : (⟨path.toArray⟩ : ByteArray)[k]'(by omega) = c := hcx
        have hdk : path.drop k = c :: path.drop (k + 1) := by rw [← hcx]; exact List.drop_eq_getElem_cons hlt2
        have hsn : (path.drop fr).take (k + 1 - fr) = p ++ [c] := by rw [← hcx, ← hp]; exact drop_take_snoc' path fr k hfr hlt2
        have Hsn := Lib.hid hsn
        have he := He.out
        rw [hdk, pcA] at he
        clear hcx hsn hdk hp
        by_cases hc : c = 47
        · obtain rfl := hc
          have hc' : (((47 : UInt8).toNat : Int) != 47) = false := by decide
          rw [if_pos rfl] at he
          have He3 : Hid (ps = (done ++ [p]) ++ pcA 47 [] (path.drop (k + 1))) := Lib.hid (by rw [he]; simp)
          clear he
          have Hbad : Hid (rightB p = false → ps.all rightB = false) := Lib.hid (fun h => by rw [He3.out, List.all_append, List.all_append]; simp [h])
          have Hnext : Hid (∀ done', done' = done ++ [p] → (k + 1 ≤ path.length → ps = done' ++ pcA 47 ((path.drop (k + 1)).take (k + 1 - (k + 1))) (path.drop (k + 1)) ∧ ((path.drop (k + 1)).take (k + 1 - (k + 1))).all letterB = true) ∧ (k + 1 = path.length + 1 → ps = done')) :=
            Lib.hid (fun d hd => ⟨fun h => by rw [hd, Nat.sub_self, List.take_zero]; exact ⟨He3.out, rfl⟩, fun h => by omega⟩)
          by_cases h64 : p.length ≤ 64
          case neg =>
            have Hn : Hid (partsL path = none) := Lib.hid (Hno.out (Hbad.out (Hcur2.out (by omega))))
            clear Hcur Hcur2 Hbad Hnext
            go_wp2
            go_ret2
            exact ⟨_, by rw [Hn.out]; rfl, by rw [Hn.out]; exact OwnS.nil _ _, Hbel.out⟩
          have Hr := Lib.hid (Hcur.out (by omega))
          have Hdone' : Hid ((done ++ [p]).all rightB = true) := Lib.hid (by rw [List.all_append, Hdone.out]; simp [Hr.out])
          obtain ⟨hn1, hn2⟩ := Hnext.out _ rfl
          have Hn1 := Lib.hid hn1
          have Hn2 := Lib.hid hn2
          clear Hcur Hcur2 Hbad Hnext hn1 hn2
          cases hq : p.isEmpty with
          | true =>
            have Hk : Hid (out = (done ++ [p]).filter keepB) := Lib.hid (by rw [List.isEmpty_iff.1 hq, List.filter_append, Hout.out]; simp [keepB])
            go_wp2
            go_roundw
            case rel => exact ⟨k + 1, k + 1, out, done ++ [p], by go_num, by go_num, Hown.out, Hbel.out, by omega, Nat.le_refl _, Hk.out, Hdone'.out, Hn1.out, Hn2.out⟩
            case measure => simp [intOf]; omega
          | false =>
            have Hq : Hid (p ≠ []) := Lib.hid (fun e => by rw [e] at hq; simp at hq)
            by_cases hd : p = [46]
            · have Hk : Hid (out = (done ++ [p]).filter keepB) := Lib.hid (by rw [hd, List.filter_append, Hout.out]; simp [keepB])
              have hd1 : (p != [46]) = false := by simp [hd]
              have hd2 : (p == [46]) = true := by simp [hd]
              go_wp2
              go_roundw
              case rel => exact ⟨k + 1, k + 1, out, done ++ [p], by go_num, by go_num, Hown.out, Hbel.out, by omega, Nat.le_refl _, Hk.out, Hdone'.out, Hn1.out, Hn2.out⟩
              case measure => simp [intOf]; omega
            · have Hk : Hid (out ++ [p] = (done ++ [p]).filter keepB) := Lib.hid (by rw [List.filter_append, Hout.out]; simp [keepB, Hq.out, hd])
              have hd1 : (p != [46]) = true := by simp [hd]
              have hd2 : (p == [46]) = false := by simp [hd]
              clear hd
              go_wp2_with (at_builtin; refine wpList_appendStr _ rfl (.tmp 47) (.tmp 49) rfl w.heap.size _ out rfl (Hown.out.alloc _) wr.heap.size p rfl ?c1 (by omega) ?c2 ?_)
              skip
              case c2 => first | omega | (simp; omega)
              intro v' w2 hown' hbel'
              have Hown' := Lib.hid hown'
              have Hbel' := Lib.hid ((Hbel.out.alloc hBr _).trans hbel')
              clear hown' hbel'
              go_wp2
              go_roundw
              case rel => exact ⟨k + 1, k + 1, out ++ [p], done ++ [p], by go_num, by go_num, Hown'.out, Hbel'.out, by omega, Nat.le_refl _, Hk.out, Hdone'.out, Hn1.out, Hn2.out⟩
              case measure => simp [intOf]; omega
        · rw [if_neg hc] at he
          have hc' : ((c.toNat : Int) != 47) = true := by
            have : c.toNat ≠ 47 := fun e => hc (UInt8.toNat_inj.1 e)
            simp; omega
          have He3 := Lib.hid he
          clear he
          have HL := Lib.hid (letter_any wr c)
          clear Hcur Hcur2
          cases hlb : letterB c with
          | false =>
            have Hn : Hid (partsL path = none) := Lib.hid (Hno.out (by
              rw [He3.out, List.all_append, pcA_bad _ _ (by rw [List.all_append]; simp [hlb])]; simp))
            rw [hlb] at HL
            go_wp2_with fail
            refine HL.out.mono ?_
            rintro e w' ⟨rfl, rfl⟩
            go_wp2
            go_ret2
            exact ⟨_, by rw [Hn.out]; rfl, by rw [Hn.out]; exact OwnS.nil _ _, Hbel.out⟩
          | true =>
            have Hcl2 : Hid ((p ++ [c]).all letterB = true) := Lib.hid (by rw [List.all_append, Hcl.out]; simp [hlb])
            rw [hlb] at HL
            go_wp2_with fail
            refine HL.out.mono ?_
            rintro e w' ⟨rfl, rfl⟩
            go_wp2
            go_roundw
            case rel => exact ⟨k + 1, fr, out, done, by go_num, rfl, Hown.out, Hbel.out, by omega, by omega, Hout.out, Hdone.out, fun _ => by rw [Hsn.out]; exact ⟨He3.out, Hcl2.out⟩, fun h => by omega⟩
            case measure => simp [intOf]; omega
    · have hkk : k = path.length + 1 := by omega
      have hfin := He2.out hkk
      have HY : Hid (partsL path = some out) := Lib.hid (by
        have := Hyes.out (by rw [hfin]; exact Hdone.out)
        rw [this, hfin, Hout.out])
      go_wp2
      go_ret2
      exact ⟨_, by rw [HY.out]; rfl, by rw [HY.out]; exact Hown.out, Hbel.out⟩

end Go.Proofs.YtgoecmfjidcieaaDoor
