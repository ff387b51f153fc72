/- Lemmas that the claim is proved from: what calls of functions of the program come to (contracts), and plain laws. Each lemma bears its own conditions. -/
import Derived.Test.YtmckjdopplchbaaDoorSRB
import Derived.Test.YtmckjdopplchbaaDoorFPlain2
namespace Go.Proofs.YtmckjdopplchbaaDoor
set_option linter.unusedVariables false
set_option linter.unusedSimpArgs false
open Go.RowKit

/-- each is a path as it stands when it is cleaned -/
def AllClean (l : List (List UInt8)) : Prop := ∀ x ∈ l, cleanL x = (x, 0)
theorem putL_clean {l : List (List UInt8)} (h : AllClean l) (p : List UInt8) : AllClean (putL l p) := by
  unfold putL
  split
  · rename_i hc
    intro x hx
    rcases List.mem_append.1 hx with hx | hx
    · exact h x hx
    · rw [List.mem_singleton.1 hx]; exact (cleanL_idem hc).1
  · exact h
theorem inL_clean (name o : List UInt8) : ∀ (ds l : List (List UInt8)), AllClean l → AllClean (inL name o l ds)
  | [], l, h => h
  | d :: ds, l, h => by
    rw [inL]
    refine inL_clean name o ds _ ?_
    split
    · exact putL_clean h _
    · exact h
theorem candL_clean {name o : List UInt8} {rp ps : List (List UInt8)} {ks : List (List UInt8 × List UInt8)} : AllClean (candL name o rp ps ks).1 := by
  have h0 : AllClean [] := fun x hx => by cases hx
  unfold candL
  split
  · split
    · split
      · split
        · rename_i hc
          intro x hx
          rw [List.mem_singleton.1 hx]
          exact (cleanL_idem hc).1
        · exact h0
      · exact h0
    · rw [restL]
      refine inL_clean _ _ _ _ ?_
      have h1 := inL_clean name o ps _ (inL_clean name o rp _ h0)
      unfold knowL
      split
      · exact putL_clean h1 _
      · exact h1
  · exact h0
theorem candL_bad {name o : List UInt8} {rp ps : List (List UInt8)} {ks : List (List UInt8 × List UInt8)} (h : (candL name o rp ps ks).2 ≠ 0) : (candL name o rp ps ks).1 = [] := by
  unfold candL at h ⊢
  split
  · rename_i h1
    rw [if_pos h1] at h
    split
    · rename_i h2
      rw [if_pos h2] at h
      split
      · rename_i h3
        rw [if_pos h3] at h
        split
        · rename_i h4; rw [if_pos h4] at h; exact absurd rfl h
        · rfl
      · rfl
    · rename_i h2; rw [if_neg h2] at h; exact absurd rfl h
  · rfl

set_option maxHeartbeats 8000000 in
set_option maxRecDepth 100000 in
theorem law_sclean (m : Int) (w : World) (name o : List UInt8) (rpv pv cv : Value) (rp ps : List (List UInt8)) (hm : w.cell? ⟨0, 0, none⟩ = some (.int .i64 m))
    (hrp : StrsB w.heap.size w rpv rp) (hps : StrsB w.heap.size w pv ps) (hzo : ByteArray.size ⟨o.toArray⟩ ≤ maxLen) (hz : name.length ≤ 9223372036854775807) (hl : rp.length + ps.length ≤ 1048576) :
    Calls Tryd.prog 11 #[.agg #[.string ⟨name.toArray⟩, .string ⟨o.toArray⟩, rpv, pv, cv]] w fun e w' => e = .returned (.bool true) ∧ Below w.heap.size w w' := by
  have h0 : 0 < w.heap.size := World.block_lt_of_cell? w _ hm
  obtain ⟨pa, pc, hpe⟩ := hps.form
  obtain ⟨pn, hpn⟩ : ∃ pn, ps.length = pn := ⟨_, rfl⟩
  rw [hpn] at hpe
  subst hpe
  clear hpn
  have Hm := Lib.hid hm
  have Hrp := Lib.hid hrp
  have Hps := Lib.hid hps
  have F1 := heap_alloc_new w (.cells #[.string ⟨name.toArray⟩, .string ⟨o.toArray⟩, rpv, .slice pa pn pc, cv] 40 (0, 0))
  have B1 := Lib.hid ((Below.refl w.heap.size w).alloc (Nat.le_refl _) (.cells #[.string ⟨name.toArray⟩, .string ⟨o.toArray⟩, rpv, .slice pa pn pc, cv] 40 (0, 0)))
  have hz1 : (w.alloc (.cells #[.string ⟨name.toArray⟩, .string ⟨o.toArray⟩, rpv, .slice pa pn pc, cv] 40 (0, 0))).heap.size = w.heap.size + 1 := by simp
  have HF1 := Lib.hid F1
  have HZ1 := Lib.hid hz1
  clear hm hrp hps F1 hz1
  go_enter Tryd.func11, Tryd.ntmps11
  go_wp2_with fail
  generalize w.alloc (.cells #[.string ⟨name.toArray⟩, .string ⟨o.toArray⟩, rpv, .slice pa pn pc, cv] 40 (0, 0)) = w1 at *
  refine (sawake_any m w1 (by rw [B1.out.cell (p := ⟨0, 0, none⟩) h0]; exact Hm.out)).mono ?_
  rintro e w2 ⟨rfl, hb2⟩
  have F2 := Lib.hid ((hb2.block w.heap.size (by have := HZ1.out; omega)).trans HF1.out)
  have B2 := Lib.hid (B1.out.trans (hb2.mono (by have := HZ1.out; omega)))
  have Z2 := Lib.hid (show w.heap.size + 1 ≤ w2.heap.size by have := HZ1.out; have := hb2.size; omega)
  obtain ⟨c0, c1, c2, c3, c4⟩ := want_cells F2.out
  clear hb2
  go_wp2_with fail
  refine (few_any w2 name o rpv (.slice pa pn pc) cv hzo).mono ?_
  rintro e w3 ⟨rfl, hb3⟩
  have F3 := Lib.hid ((hb3.block w.heap.size (by have := Z2.out; omega)).trans F2.out)
  have B3 := Lib.hid (B2.out.trans (hb3.mono B2.out.size))
  have Z3 := Lib.hid (show w.heap.size + 1 ≤ w3.heap.size by have := Z2.out; have := hb3.size; omega)
  clear hb3 c0 c1 c2 c3 c4
  by_cases ho : o.length ≤ 5000
  case neg =>
    have hd : decide (o.length ≤ 5000) = false := by rw [decide_eq_false_iff_not]; exact ho
    clear ho
    go_wp2
    go_ret
    exact ⟨rfl, B3.out⟩
  case pos =>
    have hd : decide (o.length ≤ 5000) = true := by rw [decide_eq_true_eq]; exact ho
    obtain ⟨c0, c1, c2, c3, c4⟩ := want_cells F3.out
    rw [hd]
    have hm3 : w3.cell? ⟨0, 0, none⟩ = some (.int .i64 m) := by rw [B3.out.cell (p := ⟨0, 0, none⟩) h0]; exact Hm.out
    have H4 := Lib.hid (cand_any m w3 name o rpv (.slice pa pn pc) (.slice none 0 0) rp ps [] hm3 ((Hrp.out.below B3.out).mono B3.out.size) ((Hps.out.below B3.out).mono B3.out.size) (pairsB_nil _ _) ho hz (by omega))
    have hcl := candL_len name o rp ps []
    have Hcc := Lib.hid (candL_clean (name := name) (o := o) (rp := rp) (ps := ps) (ks := []))
    have Hcb := Lib.hid (candL_bad (name := name) (o := o) (rp := rp) (ps := ps) (ks := []))
    clear hm3
    generalize candL name o rp ps [] = r at *
    obtain ⟨L, n⟩ := r
    simp only [List.length_nil] at hcl Hcc Hcb
    go_wp2_with fail
    refine H4.out.mono ?_
    rintro e w4 ⟨u4, rfl, hu4, hb4⟩
    have B4 := Lib.hid (B3.out.trans (hb4.mono B3.out.size))
    have U4 := Lib.hid hu4
    obtain ⟨aa, ca, hva⟩ := hu4.form
    clear hu4 hb4 c0 c1 c2 c3 c4 H4
    subst hva
    by_cases hn : n = 0
    case neg =>
      have e : L = [] := Hcb.out hn
      subst e
      clear Hcb Hcc
      go_wp2
      go_ret
      exact ⟨rfl, B4.out⟩
    case pos =>
      subst hn
      clear Hcb
      go_wp2_with fail
      go_loopw [6] (fun i wr => ∃ (k : Nat), i = .int .i64 k ∧ k ≤ L.length ∧ OwnS w3.heap.size wr (.slice aa L.length ca) L ∧ Below w.heap.size w wr) (fun i _ => L.length - (intOf i).toNat)
      case atStart => exact ⟨0, rfl, Nat.zero_le _, U4.out, B4.out⟩
      case round =>
        obtain ⟨k, rfl, hk, hown, hbel⟩ := hrel
        have Hown := Lib.hid hown
        have Hbel := Lib.hid hbel
        by_cases hlt : k < L.length
        · obtain ⟨a, b, off, cap, he, _, ha, _, hc⟩ := hown.strs
          obtain rfl := ha (by omega)
          simp only [Value.slice.injEq, true_and] at he
          obtain ⟨rfl, rfl⟩ := he
          have gc := hc k hlt
          have hm3 : wr.cell? ⟨0, 0, none⟩ = some (.int .i64 m) := by rw [hbel.cell (p := ⟨0, 0, none⟩) h0]; exact Hm.out
          have hblt := World.block_lt_of_cell? _ _ gc
          have hcx := Hcc.out (snth L k) (snth_mem L k hlt)
          have HC := Lib.hid (clean_any m wr (snth L k) hm3)
          rw [hcx] at HC
          have hez : (snth L k != snth L k) = false := by simp
          clear hown hbel hc hm3 hcx
          generalize snth L k = x at *
          go_wp2_with fail
          refine HC.out.mono ?_
          rintro e w5 ⟨rfl, hb5⟩
          have gc5 : w5.cell? ⟨b, off + k, none⟩ = some (.string ⟨x.toArray⟩) := by rw [hb5.cell (p := ⟨b, off + k, none⟩) hblt]; exact gc
          have Hown5 := Lib.hid (Hown.out.below hb5)
          have Hbel5 := Lib.hid (Hbel.out.trans (hb5.mono Hbel.out.size))
          clear hb5 gc
          go_wp2
          go_roundw
          case rel => exact ⟨k + 1, by go_num, by omega, Hown5.out, Hbel5.out⟩
          case measure => simp [intOf]; omega
        · clear hown hbel
          go_wp2
          go_ret
          exact ⟨rfl, Hbel.out⟩

end Go.Proofs.YtmckjdopplchbaaDoor
