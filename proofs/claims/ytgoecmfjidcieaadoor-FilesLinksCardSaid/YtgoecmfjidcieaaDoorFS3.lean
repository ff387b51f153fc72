/- the store's walk -/
import Derived.Test.YtgoecmfjidcieaaDoorFS2
import Derived.Deep.LoopGhost
import Derived.Deep.DeepCutAuto
namespace Go.Proofs.YtgoecmfjidcieaaDoor
set_option linter.unusedVariables false
set_option linter.unusedSimpArgs false
open Go.RowKit

theorem strs_tail {w : World} {g off cap n : Nat} {r : List (List UInt8)} (hn : n = r.length) (hm : r.length ≤ 9223372036854775807) (hc : r.length ≤ cap) (h : ∀ i, i < r.length → w.cell? ⟨g, off + i, none⟩ = some (.string ⟨(snth r i).toArray⟩)) :
    Strs w (.slice (some ⟨g, off, none⟩) n cap) r := by
  subst hn
  exact ⟨_, g, off, cap, rfl, hm, fun _ => rfl, hc, h⟩

set_option maxHeartbeats 8000000 in
set_option maxRecDepth 100000 in
theorem walk_any (m : Int) (w : World) (s b : Nat) (st : StL) (v : Value) (l : List (List UInt8)) (last : Bool) (hm : w.cell? ⟨0, 0, none⟩ = some (.int .i64 m)) (hM : SM s b w st) (hok : OkSt st) (hv : Strs w v l) (hwt : weight l ≤ 201) :
    Calls Tryd.prog 41 #[.pointer (some ⟨s, 0, none⟩), v, .bool last] w fun e w' => e = .returned (.tuple #[.string ⟨(walkL st.has last l [47] 0).1.toArray⟩, .int .i64 (walkL st.has last l [47] 0).2]) ∧ Below w.heap.size w w' := by
  have HM := Lib.hid hM
  have Hok := Lib.hid hok
  have Hv := Lib.hid hv
  have h0lt : 0 < w.heap.size := World.block_lt_of_cell? _ _ hm
  have Hm := Lib.hid hm
  clear hM hok hv hm
  obtain ⟨W, hW⟩ : ∃ W, W = walkL st.has last l [47] 0 := ⟨_, rfl⟩
  rw [← hW]
  have Hwk0 := Lib.hid hW
  clear hW
  go_enter Tryd.func41, Tryd.ntmps41
  go_wp2
  go_loopg [1, 8, 9] ((8 - 0) * 2000 + l.length) (fun gk vt va vl wr => ∃ (todo : List (List UInt8)) (a : List UInt8) (k : Nat), gk = (8 - k) * 2000 + todo.length ∧ Strs wr vt todo ∧ va = .string ⟨a.toArray⟩ ∧ vl = .int .i64 k ∧ k ≤ 8 ∧ a ≠ [] ∧
      a.length + weight todo + (8 - k) * 202 ≤ 1818 ∧ W = walkL st.has last todo a k ∧ Below w.heap.size w wr)
  case atStart => exact ⟨l, [47], 0, rfl, Hv.out, rfl, rfl, by omega, by simp, by simp; omega, Hwk0.out, Below.refl _ _⟩
  case round =>
    clear Hwk0 Hv hwt
    obtain ⟨todo, a, k, hgk, htd, rfl, rfl, hk, ha0, hbd, hwk, hbel⟩ := hrel
    have Hgk := Lib.hid hgk
    have Hwk := Lib.hid hwk
    have Hbel := Lib.hid hbel
    have HMr := Lib.hid (HM.out.below hbel)
    have hbs := hbel.size
    have hlw := length_weight todo
    obtain ⟨da, g, off, cap, rfl, hm1, hda, hcap, hc⟩ := htd
    clear hgk hwk hbel
    cases todo with
    | nil =>
      simp only [List.length_nil] at *
      clear hc hda
      go_wp2
      go_ret2
      exact ⟨by rw [Hwk.out, walkL_nil]; rfl, Hbel.out⟩
    | cons p r =>
      simp only [List.length_cons] at *
      obtain rfl := hda (by omega)
      have gc : wr.cell? ⟨g, off, none⟩ = some (.string ⟨p.toArray⟩) := hc 0 (by omega)
      have Hr : Hid (∀ i, i < r.length → wr.cell? ⟨g, off + 1 + i, none⟩ = some (.string ⟨(snth r i).toArray⟩)) := Lib.hid (fun i hi => by
        have := hc (i + 1) (by omega)
        rw [Nat.add_assoc, Nat.add_comm 1 i, this]; rfl)
      simp only [weight] at hbd hlw
      have gx : g < wr.heap.size := World.block_lt_of_cell? _ _ gc
      clear hc hda
      go_upto_region 4 with fail
      go_cut [1] from 16 to 83 (fun v1 wx => wr = wx ∧ ∃ o' : Nat, v1 = .slice (some ⟨g, o', none⟩) r.length (cap - 1) ∧ Hid (∀ i, i < r.length → wr.cell? ⟨g, o' + i, none⟩ = some (.string ⟨(snth r i).toArray⟩)))
      case first =>
        by_cases h1 : cap = 1
        · have hr0 : r.length = 0 := by omega
          subst h1
          go_wp2
          go_meet
          exact ⟨rfl, off, by first | rfl | rw [hr0], Lib.hid (fun i hi => by omega)⟩
        · have hc1 : cap - 1 ≠ 0 := by omega
          go_wp2
          go_meet
          exact ⟨rfl, off + 1, rfl, Hr⟩
      case rest =>
      obtain ⟨rfl, o', rfl, Hc⟩ := hcut
      clear Hr gc
      by_cases hd : p = [46, 46]
      · subst hd
        have HU := Lib.hid (fun w => up_any w a ha0 (by omega))
        have Hul := Lib.hid (upL_len a)
        have Hun := Lib.hid (upL_ne ha0)
        go_wp2_with fail
        refine (HU.out _).mono ?_
        rintro e w3 ⟨rfl, rfl⟩
        go_wp2
        go_roundg ((8 - k) * 2000 + r.length)
        case measure => rw [Hgk.out]; omega
        case rel => exact ⟨r, upL a, k, rfl, strs_tail rfl (by omega) (by omega) Hc.out, rfl, rfl, hk, Hun.out, by have := Hul.out; simp at hbd; omega, by rw [Hwk.out, walkL_up], Hbel.out⟩
      · have hd1 : (p == [46, 46]) = false := by simp [hd]
        have Hd := Lib.hid hd
        have HJ := Lib.hid (fun w => join_any w a p (by omega) (by omega))
        have hjl := joinL_len a p
        have hjn := Lib.hid (joinL_ne a p ha0)
        have hjs := size_mk' (joinL a p)
        have hlk := HMr.out.look (joinL a p) (by omega)
        clear hd
        cases hN : st.has (joinL a p) with
        | none =>
          have hg : st.get (joinL a p) = ⟨0, 0, [], []⟩ := by simp only [StL.get, hN]; rfl
          rw [hg, hN] at hlk
          have HWn := Lib.hid (walkL_none (last := last) (r := r) (k := k) Hd.out hN)
          have hlk2 : (Instr.lookup 64 (.map (some b)) (.string ⟨(joinL a p).toArray⟩) true).run Tryd.prog wr = .ok (.tuple #[.agg #[.int .i64 0, .int .i64 0, .string ⟨#[]⟩, .string ⟨#[]⟩], .bool false]) wr := hlk
          clear hg hN hlk
          have s0 := HMr.out.cell0
          have hM2 := Lib.hid hlk2
          generalize joinL a p = next at *
          by_cases hr : r = []
          · subst hr
            simp only [List.length_nil] at *
            go_wp2_with fail
            refine (HJ.out _).mono ?_
            rintro e w3 ⟨rfl, rfl⟩
            go_wp2
            go_ret2
            exact ⟨by first | (rw [Hwk.out, HWn.out, if_pos rfl]; rfl) | (rw [Hwk.out, HWn.out]; rfl), Hbel.out.alloc hbs _⟩
          · have hrl : 0 < r.length := List.length_pos_iff.2 hr
            have hr2 : (r.length == 0) = false := by simp; omega
            have hr3 : ((r.length : Int) == 0) = false := by simp; omega
            have Hrn := Lib.hid hr
            clear hr
            go_wp2_with fail
            refine (HJ.out _).mono ?_
            rintro e w3 ⟨rfl, rfl⟩
            go_wp2
            go_ret2
            exact ⟨by rw [Hwk.out, HWn.out, if_neg Hrn.out]; rfl, Hbel.out.alloc hbs _⟩
        | some n =>
          have hg : st.get (joinL a p) = n := by simp only [StL.get, hN]; rfl
          rw [hg, hN] at hlk
          have Hok := Lib.hid (Hok.out.node _ _ hN)
          have hlk2 : (Instr.lookup 64 (.map (some b)) (.string ⟨(joinL a p).toArray⟩) true).run Tryd.prog wr = .ok (.tuple #[.agg #[.int .i64 n.kind, .int .i64 n.id, .string ⟨n.bytes.toArray⟩, .string ⟨n.dest.toArray⟩], .bool true]) wr := hlk
          have HN := Lib.hid hN
          clear hg hN hlk
          have s0 := HMr.out.cell0
          have Hnx : Hid (∃ next, next = joinL a p) := Lib.hid ⟨_, rfl⟩
          obtain ⟨next, hnx⟩ := Hnx.out
          have HD := Lib.hid hnx
          rw [← hnx] at HJ hjl hjn hjs hlk2
          clear Hnx hnx
          go_wp2_with fail
          refine (HJ.out _).mono ?_
          rintro e w3 ⟨rfl, hw3⟩
          obtain rfl : wr = w3 := hw3.symm
          go_upto_region 13 with fail
          go_cut [56] from 16 to 83 (fun v56 wx => v56 = .bool (decide (n.kind = 3 ∧ (last = true ∨ r ≠ []))) ∧ wx = wr.alloc (.cells #[.int .i64 n.kind, .int .i64 n.id, .string ⟨n.bytes.toArray⟩, .string ⟨n.dest.toArray⟩] 58))
          case first =>
            by_cases h3 : n.kind = 3
            · have h3b : (n.kind == 3) = true := by simp [h3]
              by_cases hr : r = []
              · have hrl : ¬ 0 < r.length := by simp [hr]
                cases last with
                | true =>
                  have Hq : Hid (decide (n.kind = 3 ∧ (true = true ∨ r ≠ [])) = true) := Lib.hid (by simp [h3])
                  clear h3 hr
                  go_wp2
                  go_meet
                  exact ⟨by rw [Hq.out], rfl⟩
                | false =>
                  have Hq : Hid (decide (n.kind = 3 ∧ (false = true ∨ r ≠ [])) = false) := Lib.hid (by simp [hr])
                  clear h3 hr
                  go_wp2
                  go_meet
                  exact ⟨by rw [Hq.out], rfl⟩
              · have hrl : 0 < r.length := List.length_pos_iff.2 hr
                have Hq : Hid (decide (n.kind = 3 ∧ (last = true ∨ r ≠ [])) = true) := Lib.hid (by simp [h3, hr])
                clear h3 hr
                cases last with
                | true =>
                  go_wp2
                  go_meet
                  exact ⟨by rw [Hq.out], rfl⟩
                | false =>
                  go_wp2
                  go_meet
                  exact ⟨by rw [Hq.out], rfl⟩
            · have h3b : (n.kind == 3) = false := by simp [h3]
              have Hq : Hid (decide (n.kind = 3 ∧ (last = true ∨ r ≠ [])) = false) := Lib.hid (by simp [h3])
              clear h3
              go_wp2
              go_meet
              exact ⟨by rw [Hq.out], rfl⟩
          case rest =>
          obtain ⟨rfl, hwc⟩ := hcut
          have c0 : wc.cell? ⟨wr.heap.size, 0, none⟩ = some (.int .i64 n.kind) := by rw [hwc, World.cell?_alloc_at _ _ _ _ (by simp)]; rfl
          have c3 : wc.cell? ⟨wr.heap.size, 3, none⟩ = some (.string ⟨n.dest.toArray⟩) := by rw [hwc, World.cell?_alloc_at _ _ _ _ (by simp)]; rfl
          have hsz : wc.heap.size = wr.heap.size + 1 := by rw [hwc]; simp
          have HB := Lib.hid (show Below wr.heap.size wr wc by rw [hwc]; exact (Below.refl _ wr).alloc (Nat.le_refl _) _)
          clear hwc s0 hlk2
          by_cases hlk : n.kind = 3 ∧ (last = true ∨ r ≠ [])
          · rw [decide_eq_true hlk]
            by_cases h8 : 8 ≤ k
            · have hk8 : k = 8 := by omega
              subst hk8
              have HWn := Lib.hid (walkL_loop Hd.out HN.out hlk.1 hlk.2 h8)
              clear hlk
              go_wp2
              go_ret2
              exact ⟨by rw [Hwk.out, HWn.out]; rfl, Hbel.out.trans (HB.out.mono hbs)⟩
            · have HWn := Lib.hid (walkL_link Hd.out HN.out hlk.1 hlk.2 h8)
              obtain ⟨c, tl, hde⟩ : ∃ c tl, n.dest = c :: tl := by
                have := Hok.out.link hlk.1
                cases hx : n.dest with
                | nil => exact absurd hx this
                | cons c tl => exact ⟨c, tl, rfl⟩
              have HP := Lib.hid (parts_any m wc n.dest (((Hbel.out.trans (HB.out.mono hbs)).cell (p := ⟨0, 0, none⟩) h0lt).trans Hm.out))
              have hwt := weight_parts n.dest
              have hll := length_weight ((partsL n.dest).getD [])
              clear hlk
              rw [hde] at HP hwt hll HWn c3
              generalize (partsL (c :: tl)).getD [] = lst at *
              have hx : (⟨(c :: tl).toArray⟩ : ByteArray)[0]'(by simp [ByteArray.size]) = c := rfl
              have hxs := size_mk' (c :: tl)
              have hxl : (c :: tl).length = tl.length + 1 := rfl
              by_cases hc : c = 47
              · have hc' : ((c.toNat : Int) == 47) = true := by subst hc; decide
                have HH : (if (c :: tl).head? = some 47 then [47] else a) = [47] := if_pos (by rw [hc]; rfl)
                have HH2 := Lib.hid HH
                clear HH hc
                go_wp2_with fail
                refine HP.out.mono ?_
                rintro e w2 ⟨v2, rfl, hown2, hb2⟩
                have hb2s := hb2.size
                have c3' : w2.cell? ⟨wr.heap.size, 3, none⟩ = some (.string ⟨(c :: tl).toArray⟩) := (hb2.cell (p := ⟨wr.heap.size, 3, none⟩) (by simp only; omega)).trans c3
                have HB2 := Lib.hid (HB.out.trans (hb2.mono (show wr.heap.size ≤ wc.heap.size by omega)))
                have HC := Lib.hid (clone_any _ w2 v2 _ hown2 (by omega))
                clear hown2 hb2 c3
                go_wp2_with fail
                refine HC.out.mono ?_
                rintro e w4 ⟨u4, rfl, hown4, hb4⟩
                have hb4s := hb4.size
                have HB4 := Lib.hid (HB2.out.trans (hb4.mono (show wr.heap.size ≤ w2.heap.size by omega)))
                have Hown4 := Lib.hid hown4
                clear hown4 hb4 c3'
                go_wp2_with (at_builtin; refine wpList_appendStrs2 _ rfl (.tmp 72) (.tmp 73) rfl w2.heap.size _ lst r rfl Hown4.out g o' r.length (cap - 1) rfl rfl (fun i hi => (HB4.out.cell (p := ⟨g, o' + i, none⟩) gx).trans (Hc.out i hi)) (by omega) hb4s ?_)
                intro v5 w5 hown5 hb5
                have Hown5 := Lib.hid hown5
                have HB5 := Lib.hid (HB4.out.trans (hb5.mono (show wr.heap.size ≤ w2.heap.size by omega)))
                clear hown5 hb5
                go_wp2
                go_roundg ((8 - (k + 1)) * 2000 + (lst ++ r).length)
                case measure => rw [Hgk.out, List.length_append]; omega
                case rel => exact ⟨lst ++ r, [47], k + 1, rfl, Hown5.out.strs, rfl, by go_num, by omega, by simp, by rw [weight_append]; simp at hbd ⊢; omega, by rw [Hwk.out, HWn.out, HH2.out], Hbel.out.trans (HB5.out.mono hbs)⟩
              · have hc' : ((c.toNat : Int) == 47) = false := by
                  have : c.toNat ≠ 47 := fun e => hc (UInt8.toNat_inj.1 e)
                  simp; omega
                have HH : (if (c :: tl).head? = some 47 then [47] else a) = a := if_neg (by simpa using hc)
                have HH2 := Lib.hid HH
                clear HH hc
                go_wp2_with fail
                refine HP.out.mono ?_
                rintro e w2 ⟨v2, rfl, hown2, hb2⟩
                have hb2s := hb2.size
                have c3' : w2.cell? ⟨wr.heap.size, 3, none⟩ = some (.string ⟨(c :: tl).toArray⟩) := (hb2.cell (p := ⟨wr.heap.size, 3, none⟩) (by simp only; omega)).trans c3
                have HB2 := Lib.hid (HB.out.trans (hb2.mono (show wr.heap.size ≤ wc.heap.size by omega)))
                have HC := Lib.hid (clone_any _ w2 v2 _ hown2 (by omega))
                clear hown2 hb2 c3
                go_wp2_with fail
                refine HC.out.mono ?_
                rintro e w4 ⟨u4, rfl, hown4, hb4⟩
                have hb4s := hb4.size
                have HB4 := Lib.hid (HB2.out.trans (hb4.mono (show wr.heap.size ≤ w2.heap.size by omega)))
                have Hown4 := Lib.hid hown4
                clear hown4 hb4 c3'
                go_wp2_with (at_builtin; refine wpList_appendStrs2 _ rfl (.tmp 72) (.tmp 73) rfl w2.heap.size _ lst r rfl Hown4.out g o' r.length (cap - 1) rfl rfl (fun i hi => (HB4.out.cell (p := ⟨g, o' + i, none⟩) gx).trans (Hc.out i hi)) (by omega) hb4s ?_)
                intro v5 w5 hown5 hb5
                have Hown5 := Lib.hid hown5
                have HB5 := Lib.hid (HB4.out.trans (hb5.mono (show wr.heap.size ≤ w2.heap.size by omega)))
                clear hown5 hb5
                go_wp2
                go_roundg ((8 - (k + 1)) * 2000 + (lst ++ r).length)
                case measure => rw [Hgk.out, List.length_append]; omega
                case rel => exact ⟨lst ++ r, a, k + 1, rfl, Hown5.out.strs, rfl, by go_num, by omega, ha0, by rw [weight_append]; simp at hbd ⊢; omega, by rw [Hwk.out, HWn.out, HH2.out], Hbel.out.trans (HB5.out.mono hbs)⟩
          · rw [decide_eq_false hlk]
            have Hlk := Lib.hid hlk
            clear hlk c3
            go_upto_region 21 with fail
            go_cut [82] from 16 to 83 (fun v82 wx => v82 = .bool (decide (n.kind ≠ 2 ∧ r ≠ [])) ∧ wc = wx)
            case first =>
              by_cases h2 : n.kind = 2
              · have h2b : (n.kind != 2) = false := by simp [h2]
                have Hq : Hid (decide (n.kind ≠ 2 ∧ r ≠ []) = false) := Lib.hid (by simp [h2])
                clear h2
                go_wp2
                go_meet
                exact ⟨by rw [Hq.out], rfl⟩
              · have h2b : (n.kind != 2) = true := by simp [h2]
                by_cases hr : r = []
                · have hrl : ¬ 0 < r.length := by simp [hr]
                  have Hq : Hid (decide (n.kind ≠ 2 ∧ r ≠ []) = false) := Lib.hid (by simp [hr])
                  clear h2 hr
                  go_wp2
                  go_meet
                  exact ⟨by rw [Hq.out], rfl⟩
                · have hrl : 0 < r.length := List.length_pos_iff.2 hr
                  have Hq : Hid (decide (n.kind ≠ 2 ∧ r ≠ []) = true) := Lib.hid (by simp [h2, hr])
                  clear h2 hr
                  go_wp2
                  go_meet
                  exact ⟨by rw [Hq.out], rfl⟩
            case rest =>
            obtain ⟨rfl, hwc⟩ := hcut
            obtain rfl := hwc
            by_cases h2 : n.kind ≠ 2 ∧ r ≠ []
            · rw [decide_eq_true h2]
              have HWn := Lib.hid (walkL_file (last := last) (k := k) Hd.out HN.out Hlk.out h2.1 h2.2)
              clear h2
              go_wp2
              go_ret2
              exact ⟨by rw [Hwk.out, HWn.out]; rfl, Hbel.out.trans (HB.out.mono hbs)⟩
            · rw [decide_eq_false h2]
              have HWn := Lib.hid (walkL_on (last := last) (k := k) Hd.out HN.out Hlk.out h2)
              clear h2
              go_wp2
              go_roundg ((8 - k) * 2000 + r.length)
              case measure => rw [Hgk.out]; omega
              case rel => exact ⟨r, next, k, rfl, strs_tail rfl (by omega) (by omega) (fun i hi => (HB.out.cell (p := ⟨g, o' + i, none⟩) gx).trans (Hc.out i hi)), rfl, rfl, hk, hjn.out, by omega, by rw [Hwk.out, HWn.out, HD.out], Hbel.out.trans (HB.out.mono hbs)⟩

end Go.Proofs.YtgoecmfjidcieaaDoor
